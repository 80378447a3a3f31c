/-
  Chapter 17: what the walked functions answer (part d).
  Conditions: none.
-/
import Derived.Test.YtpidaficnfaedaaWb
open Go Go.Proofs
namespace Go.Proofs.Hz
theorem f48_eq (n : Int) : f48 n = some (.tup [.int .i64 (unordF n).1, .bool (unordF n).2]) := by
  have hs : shT .shr .i64 n 1 = n / 2 := by have := sh_r n 1 (by omega); simpa using this
  unfold f48 unordF
  rw [hs, bv_and1]
  by_cases h1 : n < 0
  · rw [if_pos h1, if_pos (.inl h1)]
  · rw [if_neg h1]
    by_cases h2 : n / 2 > 65535
    · rw [if_pos h2, if_pos (by omega)]
    · rw [if_neg h2]
      by_cases h3 : n % 2 = 0
      · rw [if_pos h3, if_pos (by omega)]
      · rw [if_neg h3, if_neg (by omega)]
theorem f44_eq (x y : Int) : f44 x y = some (.bool (lessF x y)) := by simp [f44, isNaN2F, lessF]
theorem f46_eq {l : List Int} {bl : Bool} {a g : Int} {y : Sl} (h : withF l a g [] = some y) : f46 l bl a g = some (.im (y.l.map eI) y.c) := by
  unfold withF at h
  split at h
  · rename_i hc
    unfold f46
    rw [w64_id' (by omega), if_pos (by omega), if_pos (by omega), h]
    rfl
  · cases h
theorem f46x_eq {l : List Int} {bl : Bool} {a g x : Int} {y : Sl} (h : withF l a g [x] = some y) : f46x l bl a g x = some (.im (y.l.map eI) y.c) := by
  unfold withF at h
  split at h
  · rename_i hc
    unfold f46x
    rw [w64_id' (by omega), if_pos (by omega), if_pos (by omega), h]
    rfl
  · cases h
theorem f15_eq (m n : Md) (h : okM m = true) : f15 m n = some (.bool (sameF m n)) := by
  simp only [okM, List.range, List.range.loop, List.all_cons, List.all_nil, Bool.and_true, Bool.and_eq_true, decide_eq_true_eq] at h
  obtain ⟨⟨k0, k1, k2, k3, k4, k5, k6, k7⟩, hk, hv⟩ := h
  unfold f15 sameF
  simp only [List.range, List.range.loop, List.all_cons, List.all_nil, Bool.and_true]
  rw [if_pos k0]
  by_cases e0 : eqL (m.q 0).l (n.q 0).l = true
  rotate_left 1
  · simp [e0]
  rw [if_neg (by simp [e0]), if_pos k1]
  by_cases e1 : eqL (m.q 1).l (n.q 1).l = true
  rotate_left 1
  · simp [e1]
  rw [if_neg (by simp [e1]), if_pos k2]
  by_cases e2 : eqL (m.q 2).l (n.q 2).l = true
  rotate_left 1
  · simp [e2]
  rw [if_neg (by simp [e2]), if_pos k3]
  by_cases e3 : eqL (m.q 3).l (n.q 3).l = true
  rotate_left 1
  · simp [e3]
  rw [if_neg (by simp [e3]), if_pos k4]
  by_cases e4 : eqL (m.q 4).l (n.q 4).l = true
  rotate_left 1
  · simp [e4]
  rw [if_neg (by simp [e4]), if_pos k5]
  by_cases e5 : eqL (m.q 5).l (n.q 5).l = true
  rotate_left 1
  · simp [e5]
  rw [if_neg (by simp [e5]), if_pos k6]
  by_cases e6 : eqL (m.q 6).l (n.q 6).l = true
  rotate_left 1
  · simp [e6]
  rw [if_neg (by simp [e6]), if_pos k7]
  by_cases e7 : eqL (m.q 7).l (n.q 7).l = true
  rotate_left 1
  · simp [e7]
  rw [if_neg (by simp [e7]), if_pos hk, if_pos hv]
  simp only [e0, e1, e2, e3, e4, e5, e6, e7, Bool.true_and]
  by_cases ek : eqL m.k.l n.k.l = true
  rotate_left 1
  · simp [ek]
  rw [if_pos ek]
  by_cases ev : eqL m.v.l n.v.l = true
  rotate_left 1
  · simp [ev]
  rw [if_pos ev]
  simp only [ek, ev, Bool.true_and]
  split
  · rename_i he
    rw [he, Bool.true_and]
  · rename_i he
    simp only [Bool.not_eq_true] at he
    rw [he, Bool.false_and]
theorem f11_eq (m : Md) : f11 m = some (.bool (smallF m)) := by
  unfold f11 smallF
  simp only [List.range, List.range.loop, List.all_cons, List.all_nil, Bool.and_true]
  by_cases h0 : (m.q 0).l.length ≤ 40
  rotate_left 1
  · rw [if_pos (by omega)]; simp [h0]
  rw [if_neg (by omega)]
  by_cases h1 : (m.q 1).l.length ≤ 40
  rotate_left 1
  · rw [if_pos (by omega)]; simp [h1]
  rw [if_neg (by omega)]
  by_cases h2 : (m.q 2).l.length ≤ 40
  rotate_left 1
  · rw [if_pos (by omega)]; simp [h2]
  rw [if_neg (by omega)]
  by_cases h3 : (m.q 3).l.length ≤ 40
  rotate_left 1
  · rw [if_pos (by omega)]; simp [h3]
  rw [if_neg (by omega)]
  by_cases h4 : (m.q 4).l.length ≤ 40
  rotate_left 1
  · rw [if_pos (by omega)]; simp [h4]
  rw [if_neg (by omega)]
  by_cases h5 : (m.q 5).l.length ≤ 40
  rotate_left 1
  · rw [if_pos (by omega)]; simp [h5]
  rw [if_neg (by omega)]
  by_cases h6 : (m.q 6).l.length ≤ 40
  rotate_left 1
  · rw [if_pos (by omega)]; simp [h6]
  rw [if_neg (by omega)]
  by_cases h7 : (m.q 7).l.length ≤ 40
  rotate_left 1
  · rw [if_pos (by omega)]; simp [h7]
  rw [if_neg (by omega)]
  by_cases hk : m.k.l.length ≤ 40
  rotate_left 1
  · rw [if_neg (by omega)]; simp [hk]
  rw [if_pos (by omega), if_pos (by omega)]
  simp [h0, h1, h2, h3, h4, h5, h6, h7, hk]
theorem lessF_ok (x y : Int) : Spec FF 44 [.int .i64 x, .int .i64 y] (.bool (lessF x y)) := f44_ok x y (f44_eq x y)
theorem same15_ok (m n : Md) (h : okM m = true) : Spec FF 15 [m.av, n.av] (.bool (sameF m n)) := f15_ok m n (f15_eq m n h)
theorem small_ok (m : Md) : Spec FF 11 [m.av] (.bool (smallF m)) := f11_ok m (f11_eq m)
theorem unord_ok (n : Int) : Spec FF 48 [.int .i64 n] (.tup [.int .i64 (unordF n).1, .bool (unordF n).2]) := f48_ok n (f48_eq n)
theorem with0_ok {l : List Int} (bl : Bool) {a g : Int} (bm : Bool) {y : Sl} (h : withF l a g [] = some y) (hm : bm = true) : Spec FF 46 [.im (l.map eI) bl, .int .i64 a, .int .i64 g, .im [] bm] (.im (y.l.map eI) y.c) := by
  subst hm; exact f46_ok l bl a g (f46_eq h)
theorem with1_ok {l : List Int} (bl : Bool) {a g x : Int} {y : Sl} (h : withF l a g [x] = some y) : Spec FF 46 [.im (l.map eI) bl, .int .i64 a, .int .i64 g, .im [[.int .i64 x]] true] (.im (y.l.map eI) y.c) := f46x_ok l bl a g x (f46x_eq h)
end Go.Proofs.Hz
open Go Go.Proofs
namespace Go.Proofs.Hz
def f27_0 : Nat → List Int → Bool → Int → Int → Int → Option AV
  | 0, _, _, _, _, _ => none
  | fu + 1, l, bl, x, p0, p1 =>
    if p0 < p1 then
      if 0 ≤ (IntKind.wrap .i64 (shT .shr .u64 (IntKind.wrap .u64 (w64 (p0 + p1))) 1)) then Option.bind (l[Int.toNat (IntKind.wrap .i64 (shT .shr .u64 (IntKind.wrap .u64 (w64 (p0 + p1))) 1))]?) fun x2 =>
      if (lessF x2 x) = true then
        f27_0 fu l bl x (w64 ((IntKind.wrap .i64 (shT .shr .u64 (IntKind.wrap .u64 (w64 (p0 + p1))) 1)) + 1)) p1
      else
        f27_0 fu l bl x p0 (IntKind.wrap .i64 (shT .shr .u64 (IntKind.wrap .u64 (w64 (p0 + p1))) 1)) else none
    else
      if p0 < (List.length l : Int) then
        if 0 ≤ p0 then Option.bind (l[Int.toNat p0]?) fun x3 =>
        if x3 = x then
          some (.tup [(.int .i64 p0), (.bool true)])
        else
          if (isNaNF x3) = true then
            some (.tup [(.int .i64 p0), (.bool (isNaNF x))])
          else
            some (.tup [(.int .i64 p0), (.bool false)]) else none
      else
        some (.tup [(.int .i64 p0), (.bool false)])
def f27_0W : List AV := ([(vf 0)] ++ vT 0 4)
def f27_0C : List Blk := []
def f27_0V (l : List Int) (bl : Bool) (x : Int) (p0 : Int) (p1 : Int) (σ : Nat → Nat) : Val := (valL ([.int .i64 x, .int .i64 (List.length l : Int), .int .i64 p0, .int .i64 p1]) ([.im (List.map eI l) bl]) [] σ 0)
def f27_0X (l : List Int) (bl : Bool) (x : Int) (p0 : Int) (p1 : Int) (_σ : Nat → Nat) : List AV := [(.im (List.map eI l) bl), (.int .i64 x), (.int .i64 (List.length l : Int)), (.int .i64 p0), (.int .i64 p1)]
def f27_0Y (_l : List Int) (_bl : Bool) (_x : Int) (_p0 : Int) (_p1 : Int) (_σ : Nat → Nat) : List Blk := []
theorem f27_0E (l : List Int) (bl : Bool) (x : Int) (p0 : Int) (p1 : Int) (σ : Nat → Nat) : f27_0W.map (gm (f27_0V l bl x p0 p1 σ)) = f27_0X l bl x p0 p1 σ := by kernel_rfl
theorem f27_0G (l : List Int) (bl : Bool) (x : Int) (p0 : Int) (p1 : Int) (σ : Nat → Nat) : f27_0C.map (gB (f27_0V l bl x p0 p1 σ)) = f27_0Y l bl x p0 p1 σ := by kernel_rfl
def f27_0_p0V (l : List Int) (bl : Bool) (x : Int) (p0 : Int) (p1 : Int) (x2 : Int) (σ : Nat → Nat) : Val := (valL ([.int .i64 x, .int .i64 (List.length l : Int), .int .i64 p0, .int .i64 p1, .bool (decide (p0 < p1)), .int .i64 (w64 (p0 + p1)), .int .u64 (IntKind.wrap .u64 (w64 (p0 + p1))), .int .u64 (shT .shr .u64 (IntKind.wrap .u64 (w64 (p0 + p1))) 1), .int .i64 (IntKind.wrap .i64 (shT .shr .u64 (IntKind.wrap .u64 (w64 (p0 + p1))) 1)), .int .i64 x2, .bool (lessF x2 x), .int .i64 (w64 ((IntKind.wrap .i64 (shT .shr .u64 (IntKind.wrap .u64 (w64 (p0 + p1))) 1)) + 1))]) ([.im (List.map eI l) bl]) [] σ 0)
def f27_0_p0F : Facts := ⟨(List.append (α := AOp × AV) [(.bin .lss (cT 2) (cT 3), (vt 4)), (.bin .add (cT 2) (cT 3), (vt 5)), (.conv .u64 (cT 5), (vt 6)), (.conv .i64 (cT 7), (vt 8)), (.bin .add (cT 8) (cI 1), (vt 11))] [mT 4, (.bin .shr (cT 6) (.c (.int .u64 1)), (vt 7)), (.iaS 1 (cF 0) (cT 8), (.ip [(vt 9)] 0)), mT 10]), [], [], [(44, [(vt 9), (vt 0)], (vt 10))]⟩
theorem f27_0_p0Q : keep [0, 1, 6, 7, 8] [] (stepK f27_0_p0F FF [0] 4000 (.lp (cutB (fnOf FF 27) 0) :: cutK (fnOf FF 27) 0) (.code (cutB (fnOf FF 27) 0)) (tmpl [0, 1, 6, 7, 8] f27_0W f27_0C)) = some (cutK (fnOf FF 27) 0, .loop (cutB (fnOf FF 27) 0), [(vf 0), (vt 0), (vt 1), (vt 11), (vt 3)], [], 0) := by kernel_rfl
theorem f27_0_p0 (l : List Int) (bl : Bool) (x : Int) (p0 : Int) (p1 : Int) (h0 : p0 < p1) (h1 : 0 ≤ (IntKind.wrap .i64 (shT .shr .u64 (IntKind.wrap .u64 (w64 (p0 + p1))) 1))) (x2 : Int) (h2 : l[Int.toNat (IntKind.wrap .i64 (shT .shr .u64 (IntKind.wrap .u64 (w64 (p0 + p1))) 1))]? = some x2) (h3 : (lessF x2 x) = true) {z0 : St} {σ : Nat → Nat} (hσ : ∀ i j, σ i = σ j → i = j) (S : Sim (f27_0V l bl x p0 p1 σ) (tmpl [0, 1, 6, 7, 8] f27_0W f27_0C) z0) {r0 : AV} (hj : ∀ (σ1 : Nat → Nat) (c1 : St), (∀ i j, σ1 i = σ1 j → i = j) → Sim (f27_0V l bl x (w64 ((IntKind.wrap .i64 (shT .shr .u64 (IntKind.wrap .u64 (w64 (p0 + p1))) 1)) + 1)) p1 σ1) (tmpl [0, 1, 6, 7, 8] f27_0W f27_0C) c1 → J FF (fnOf FF 27) (cutK (fnOf FF 27) 0) (.code (.loop (cutB (fnOf FF 27) 0))) c1 r0) : J FF (fnOf FF 27) (.lp (cutB (fnOf FF 27) 0) :: cutK (fnOf FF 27) 0) (.code (cutB (fnOf FF 27) 0)) z0 r0 :=
  J_next (show Hold FF (f27_0_p0V l bl x p0 p1 x2 σ) f27_0_p0F from ⟨(valL_good hσ (okL (by kernel_rfl)) (.c (OkF.im eI_ok _ _) <| .n) (.n)),
    holdF_of (AllP.append (rflF fun _ => by kernel_rfl) (.c (fT (by kernel_rfl) (decide_eq_true h0)) <| .c (fSh (k := .u64) (k' := .u64) (a := (IntKind.wrap .u64 (w64 (p0 + p1)))) (b := 1) (by simp) (by kernel_rfl) (by kernel_rfl) (by decide) (by kernel_rfl)) <| .c (fIa (sz := 1) (e := eI) (l := l) (b := bl) (k := .i64) (n := (IntKind.wrap .i64 (shT .shr .u64 (IntKind.wrap .u64 (w64 (p0 + p1))) 1))) (y := x2) eI_ok (by kernel_rfl) (by kernel_rfl) h1 h2 (by kernel_rfl)) <| .c (fT (by kernel_rfl) h3) <| .n)),
    holdA_of (.n),
    holdN_of (.n),
    holdS_of (.c (sC (lessF_ok x2 x) (by kernel_rfl) (by kernel_rfl)) <| .n)⟩) (S.more (ρ' := (f27_0_p0V l bl x p0 p1 x2 σ)) (s0 := σ) (n0 := 0) rfl rfl rfl rfl (f27_0E l bl x p0 p1 σ) (f27_0G l bl x p0 p1 σ) (by kernel_rfl) (by kernel_rfl)) f27_0_p0Q f27_0W f27_0C (f27_0V l bl x (w64 ((IntKind.wrap .i64 (shT .shr .u64 (IntKind.wrap .u64 (w64 (p0 + p1))) 1)) + 1)) p1 (sig σ [] 0)) (X := f27_0X l bl x (w64 ((IntKind.wrap .i64 (shT .shr .u64 (IntKind.wrap .u64 (w64 (p0 + p1))) 1)) + 1)) p1 (sig σ [] 0)) (Y := f27_0Y l bl x (w64 ((IntKind.wrap .i64 (shT .shr .u64 (IntKind.wrap .u64 (w64 (p0 + p1))) 1)) + 1)) p1 (sig σ [] 0)) rfl rfl (by kernel_rfl) (f27_0E l bl x (w64 ((IntKind.wrap .i64 (shT .shr .u64 (IntKind.wrap .u64 (w64 (p0 + p1))) 1)) + 1)) p1 _) (by kernel_rfl) (f27_0G l bl x (w64 ((IntKind.wrap .i64 (shT .shr .u64 (IntKind.wrap .u64 (w64 (p0 + p1))) 1)) + 1)) p1 _) (fun c1 hi S2 => hj _ c1 hi S2)
def f27_0_p1V (l : List Int) (bl : Bool) (x : Int) (p0 : Int) (p1 : Int) (x2 : Int) (σ : Nat → Nat) : Val := (valL ([.int .i64 x, .int .i64 (List.length l : Int), .int .i64 p0, .int .i64 p1, .bool (decide (p0 < p1)), .int .i64 (w64 (p0 + p1)), .int .u64 (IntKind.wrap .u64 (w64 (p0 + p1))), .int .u64 (shT .shr .u64 (IntKind.wrap .u64 (w64 (p0 + p1))) 1), .int .i64 (IntKind.wrap .i64 (shT .shr .u64 (IntKind.wrap .u64 (w64 (p0 + p1))) 1)), .int .i64 x2, .bool (lessF x2 x)]) ([.im (List.map eI l) bl]) [] σ 0)
def f27_0_p1F : Facts := ⟨(List.append (α := AOp × AV) [(.bin .lss (cT 2) (cT 3), (vt 4)), (.bin .add (cT 2) (cT 3), (vt 5)), (.conv .u64 (cT 5), (vt 6)), (.conv .i64 (cT 7), (vt 8))] [mT 4, (.bin .shr (cT 6) (.c (.int .u64 1)), (vt 7)), (.iaS 1 (cF 0) (cT 8), (.ip [(vt 9)] 0)), mF 10]), [], [], [(44, [(vt 9), (vt 0)], (vt 10))]⟩
theorem f27_0_p1Q : keep [0, 1, 6, 7, 8] [] (stepK f27_0_p1F FF [0] 4000 (.lp (cutB (fnOf FF 27) 0) :: cutK (fnOf FF 27) 0) (.code (cutB (fnOf FF 27) 0)) (tmpl [0, 1, 6, 7, 8] f27_0W f27_0C)) = some (cutK (fnOf FF 27) 0, .loop (cutB (fnOf FF 27) 0), [(vf 0), (vt 0), (vt 1), (vt 2), (vt 8)], [], 0) := by kernel_rfl
theorem f27_0_p1 (l : List Int) (bl : Bool) (x : Int) (p0 : Int) (p1 : Int) (h0 : p0 < p1) (h1 : 0 ≤ (IntKind.wrap .i64 (shT .shr .u64 (IntKind.wrap .u64 (w64 (p0 + p1))) 1))) (x2 : Int) (h2 : l[Int.toNat (IntKind.wrap .i64 (shT .shr .u64 (IntKind.wrap .u64 (w64 (p0 + p1))) 1))]? = some x2) (h3 : ¬ ((lessF x2 x) = true)) {z0 : St} {σ : Nat → Nat} (hσ : ∀ i j, σ i = σ j → i = j) (S : Sim (f27_0V l bl x p0 p1 σ) (tmpl [0, 1, 6, 7, 8] f27_0W f27_0C) z0) {r0 : AV} (hj : ∀ (σ1 : Nat → Nat) (c1 : St), (∀ i j, σ1 i = σ1 j → i = j) → Sim (f27_0V l bl x p0 (IntKind.wrap .i64 (shT .shr .u64 (IntKind.wrap .u64 (w64 (p0 + p1))) 1)) σ1) (tmpl [0, 1, 6, 7, 8] f27_0W f27_0C) c1 → J FF (fnOf FF 27) (cutK (fnOf FF 27) 0) (.code (.loop (cutB (fnOf FF 27) 0))) c1 r0) : J FF (fnOf FF 27) (.lp (cutB (fnOf FF 27) 0) :: cutK (fnOf FF 27) 0) (.code (cutB (fnOf FF 27) 0)) z0 r0 :=
  J_next (show Hold FF (f27_0_p1V l bl x p0 p1 x2 σ) f27_0_p1F from ⟨(valL_good hσ (okL (by kernel_rfl)) (.c (OkF.im eI_ok _ _) <| .n) (.n)),
    holdF_of (AllP.append (rflF fun _ => by kernel_rfl) (.c (fT (by kernel_rfl) (decide_eq_true h0)) <| .c (fSh (k := .u64) (k' := .u64) (a := (IntKind.wrap .u64 (w64 (p0 + p1)))) (b := 1) (by simp) (by kernel_rfl) (by kernel_rfl) (by decide) (by kernel_rfl)) <| .c (fIa (sz := 1) (e := eI) (l := l) (b := bl) (k := .i64) (n := (IntKind.wrap .i64 (shT .shr .u64 (IntKind.wrap .u64 (w64 (p0 + p1))) 1))) (y := x2) eI_ok (by kernel_rfl) (by kernel_rfl) h1 h2 (by kernel_rfl)) <| .c (fT (by kernel_rfl) (bF h3)) <| .n)),
    holdA_of (.n),
    holdN_of (.n),
    holdS_of (.c (sC (lessF_ok x2 x) (by kernel_rfl) (by kernel_rfl)) <| .n)⟩) (S.more (ρ' := (f27_0_p1V l bl x p0 p1 x2 σ)) (s0 := σ) (n0 := 0) rfl rfl rfl rfl (f27_0E l bl x p0 p1 σ) (f27_0G l bl x p0 p1 σ) (by kernel_rfl) (by kernel_rfl)) f27_0_p1Q f27_0W f27_0C (f27_0V l bl x p0 (IntKind.wrap .i64 (shT .shr .u64 (IntKind.wrap .u64 (w64 (p0 + p1))) 1)) (sig σ [] 0)) (X := f27_0X l bl x p0 (IntKind.wrap .i64 (shT .shr .u64 (IntKind.wrap .u64 (w64 (p0 + p1))) 1)) (sig σ [] 0)) (Y := f27_0Y l bl x p0 (IntKind.wrap .i64 (shT .shr .u64 (IntKind.wrap .u64 (w64 (p0 + p1))) 1)) (sig σ [] 0)) rfl rfl (by kernel_rfl) (f27_0E l bl x p0 (IntKind.wrap .i64 (shT .shr .u64 (IntKind.wrap .u64 (w64 (p0 + p1))) 1)) _) (by kernel_rfl) (f27_0G l bl x p0 (IntKind.wrap .i64 (shT .shr .u64 (IntKind.wrap .u64 (w64 (p0 + p1))) 1)) _) (fun c1 hi S2 => hj _ c1 hi S2)
def f27_0_p2V (l : List Int) (bl : Bool) (x : Int) (p0 : Int) (p1 : Int) (x3 : Int) (σ : Nat → Nat) : Val := (valL ([.int .i64 x, .int .i64 (List.length l : Int), .int .i64 p0, .int .i64 p1, .bool (decide (p0 < p1)), .bool (decide (p0 < (List.length l : Int))), .int .i64 x3, .bool (decide (x3 = x))]) ([.im (List.map eI l) bl]) [] σ 0)
def f27_0_p2F : Facts := ⟨(List.append (α := AOp × AV) [(.bin .lss (cT 2) (cT 3), (vt 4)), (.bin .lss (cT 2) (cT 1), (vt 5)), (.bin .eql (cT 6) (cT 0), (vt 7))] [mF 4, mT 5, (.iaS 1 (cF 0) (cT 2), (.ip [(vt 6)] 0)), mT 7]), [], [], []⟩
theorem f27_0_p2Q : endS (fnOf FF 27) (stepK f27_0_p2F FF [0] 4000 (.lp (cutB (fnOf FF 27) 0) :: cutK (fnOf FF 27) 0) (.code (cutB (fnOf FF 27) 0)) (tmpl [0, 1, 6, 7, 8] f27_0W f27_0C)) = some (.tup [(vt 2), (.bool true)]) := by kernel_rfl
theorem f27_0_p2 (l : List Int) (bl : Bool) (x : Int) (p0 : Int) (p1 : Int) (h0 : ¬ (p0 < p1)) (h1 : p0 < (List.length l : Int)) (h2 : 0 ≤ p0) (x3 : Int) (h3 : l[Int.toNat p0]? = some x3) (h4 : x3 = x) {z0 : St} {σ : Nat → Nat} (hσ : ∀ i j, σ i = σ j → i = j) (S : Sim (f27_0V l bl x p0 p1 σ) (tmpl [0, 1, 6, 7, 8] f27_0W f27_0C) z0) : J FF (fnOf FF 27) (.lp (cutB (fnOf FF 27) 0) :: cutK (fnOf FF 27) 0) (.code (cutB (fnOf FF 27) 0)) z0 (.tup [(.int .i64 p0), (.bool true)]) :=
  jR (R := gm (f27_0_p2V l bl x p0 p1 x3 σ) (.tup [(vt 2), (.bool true)])) (by kernel_rfl) (J_end (show Hold FF (f27_0_p2V l bl x p0 p1 x3 σ) f27_0_p2F from ⟨(valL_good hσ (okL (by kernel_rfl)) (.c (OkF.im eI_ok _ _) <| .n) (.n)),
    holdF_of (AllP.append (rflF fun _ => by kernel_rfl) (.c (fT (by kernel_rfl) (decide_eq_false h0)) <| .c (fT (by kernel_rfl) (decide_eq_true h1)) <| .c (fIa (sz := 1) (e := eI) (l := l) (b := bl) (k := .i64) (n := p0) (y := x3) eI_ok (by kernel_rfl) (by kernel_rfl) h2 h3 (by kernel_rfl)) <| .c (fT (by kernel_rfl) (decide_eq_true h4)) <| .n)),
    holdA_of (.n),
    holdN_of (.n),
    holdS_of (.n)⟩) (S.more (ρ' := (f27_0_p2V l bl x p0 p1 x3 σ)) (s0 := σ) (n0 := 0) rfl rfl rfl rfl (f27_0E l bl x p0 p1 σ) (f27_0G l bl x p0 p1 σ) (by kernel_rfl) (by kernel_rfl)) f27_0_p2Q)
def f27_0_p3V (l : List Int) (bl : Bool) (x : Int) (p0 : Int) (p1 : Int) (x3 : Int) (σ : Nat → Nat) : Val := (valL ([.int .i64 x, .int .i64 (List.length l : Int), .int .i64 p0, .int .i64 p1, .bool (decide (p0 < p1)), .bool (decide (p0 < (List.length l : Int))), .int .i64 x3, .bool (decide (x3 = x)), .bool (isNaNF x3), .bool (isNaNF x)]) ([.im (List.map eI l) bl]) [] σ 0)
def f27_0_p3F : Facts := ⟨(List.append (α := AOp × AV) [(.bin .lss (cT 2) (cT 3), (vt 4)), (.bin .lss (cT 2) (cT 1), (vt 5)), (.bin .eql (cT 6) (cT 0), (vt 7))] [mF 4, mT 5, (.iaS 1 (cF 0) (cT 2), (.ip [(vt 6)] 0)), mF 7, mT 8]), [], [], [(45, [(vt 6)], (vt 8)), (45, [(vt 0)], (vt 9))]⟩
theorem f27_0_p3Q : endS (fnOf FF 27) (stepK f27_0_p3F FF [0] 4000 (.lp (cutB (fnOf FF 27) 0) :: cutK (fnOf FF 27) 0) (.code (cutB (fnOf FF 27) 0)) (tmpl [0, 1, 6, 7, 8] f27_0W f27_0C)) = some (.tup [(vt 2), (vt 9)]) := by kernel_rfl
theorem f27_0_p3 (l : List Int) (bl : Bool) (x : Int) (p0 : Int) (p1 : Int) (h0 : ¬ (p0 < p1)) (h1 : p0 < (List.length l : Int)) (h2 : 0 ≤ p0) (x3 : Int) (h3 : l[Int.toNat p0]? = some x3) (h4 : ¬ (x3 = x)) (h5 : (isNaNF x3) = true) {z0 : St} {σ : Nat → Nat} (hσ : ∀ i j, σ i = σ j → i = j) (S : Sim (f27_0V l bl x p0 p1 σ) (tmpl [0, 1, 6, 7, 8] f27_0W f27_0C) z0) : J FF (fnOf FF 27) (.lp (cutB (fnOf FF 27) 0) :: cutK (fnOf FF 27) 0) (.code (cutB (fnOf FF 27) 0)) z0 (.tup [(.int .i64 p0), (.bool (isNaNF x))]) :=
  jR (R := gm (f27_0_p3V l bl x p0 p1 x3 σ) (.tup [(vt 2), (vt 9)])) (by kernel_rfl) (J_end (show Hold FF (f27_0_p3V l bl x p0 p1 x3 σ) f27_0_p3F from ⟨(valL_good hσ (okL (by kernel_rfl)) (.c (OkF.im eI_ok _ _) <| .n) (.n)),
    holdF_of (AllP.append (rflF fun _ => by kernel_rfl) (.c (fT (by kernel_rfl) (decide_eq_false h0)) <| .c (fT (by kernel_rfl) (decide_eq_true h1)) <| .c (fIa (sz := 1) (e := eI) (l := l) (b := bl) (k := .i64) (n := p0) (y := x3) eI_ok (by kernel_rfl) (by kernel_rfl) h2 h3 (by kernel_rfl)) <| .c (fT (by kernel_rfl) (decide_eq_false h4)) <| .c (fT (by kernel_rfl) h5) <| .n)),
    holdA_of (.n),
    holdN_of (.n),
    holdS_of (.c (sC (isNaNF_ok x3) (by kernel_rfl) (by kernel_rfl)) <| .c (sC (isNaNF_ok x) (by kernel_rfl) (by kernel_rfl)) <| .n)⟩) (S.more (ρ' := (f27_0_p3V l bl x p0 p1 x3 σ)) (s0 := σ) (n0 := 0) rfl rfl rfl rfl (f27_0E l bl x p0 p1 σ) (f27_0G l bl x p0 p1 σ) (by kernel_rfl) (by kernel_rfl)) f27_0_p3Q)
def f27_0_p4V (l : List Int) (bl : Bool) (x : Int) (p0 : Int) (p1 : Int) (x3 : Int) (σ : Nat → Nat) : Val := (valL ([.int .i64 x, .int .i64 (List.length l : Int), .int .i64 p0, .int .i64 p1, .bool (decide (p0 < p1)), .bool (decide (p0 < (List.length l : Int))), .int .i64 x3, .bool (decide (x3 = x)), .bool (isNaNF x3)]) ([.im (List.map eI l) bl]) [] σ 0)
def f27_0_p4F : Facts := ⟨(List.append (α := AOp × AV) [(.bin .lss (cT 2) (cT 3), (vt 4)), (.bin .lss (cT 2) (cT 1), (vt 5)), (.bin .eql (cT 6) (cT 0), (vt 7))] [mF 4, mT 5, (.iaS 1 (cF 0) (cT 2), (.ip [(vt 6)] 0)), mF 7, mF 8]), [], [], [(45, [(vt 6)], (vt 8))]⟩
theorem f27_0_p4Q : endS (fnOf FF 27) (stepK f27_0_p4F FF [0] 4000 (.lp (cutB (fnOf FF 27) 0) :: cutK (fnOf FF 27) 0) (.code (cutB (fnOf FF 27) 0)) (tmpl [0, 1, 6, 7, 8] f27_0W f27_0C)) = some (.tup [(vt 2), (.bool false)]) := by kernel_rfl
theorem f27_0_p4 (l : List Int) (bl : Bool) (x : Int) (p0 : Int) (p1 : Int) (h0 : ¬ (p0 < p1)) (h1 : p0 < (List.length l : Int)) (h2 : 0 ≤ p0) (x3 : Int) (h3 : l[Int.toNat p0]? = some x3) (h4 : ¬ (x3 = x)) (h5 : ¬ ((isNaNF x3) = true)) {z0 : St} {σ : Nat → Nat} (hσ : ∀ i j, σ i = σ j → i = j) (S : Sim (f27_0V l bl x p0 p1 σ) (tmpl [0, 1, 6, 7, 8] f27_0W f27_0C) z0) : J FF (fnOf FF 27) (.lp (cutB (fnOf FF 27) 0) :: cutK (fnOf FF 27) 0) (.code (cutB (fnOf FF 27) 0)) z0 (.tup [(.int .i64 p0), (.bool false)]) :=
  jR (R := gm (f27_0_p4V l bl x p0 p1 x3 σ) (.tup [(vt 2), (.bool false)])) (by kernel_rfl) (J_end (show Hold FF (f27_0_p4V l bl x p0 p1 x3 σ) f27_0_p4F from ⟨(valL_good hσ (okL (by kernel_rfl)) (.c (OkF.im eI_ok _ _) <| .n) (.n)),
    holdF_of (AllP.append (rflF fun _ => by kernel_rfl) (.c (fT (by kernel_rfl) (decide_eq_false h0)) <| .c (fT (by kernel_rfl) (decide_eq_true h1)) <| .c (fIa (sz := 1) (e := eI) (l := l) (b := bl) (k := .i64) (n := p0) (y := x3) eI_ok (by kernel_rfl) (by kernel_rfl) h2 h3 (by kernel_rfl)) <| .c (fT (by kernel_rfl) (decide_eq_false h4)) <| .c (fT (by kernel_rfl) (bF h5)) <| .n)),
    holdA_of (.n),
    holdN_of (.n),
    holdS_of (.c (sC (isNaNF_ok x3) (by kernel_rfl) (by kernel_rfl)) <| .n)⟩) (S.more (ρ' := (f27_0_p4V l bl x p0 p1 x3 σ)) (s0 := σ) (n0 := 0) rfl rfl rfl rfl (f27_0E l bl x p0 p1 σ) (f27_0G l bl x p0 p1 σ) (by kernel_rfl) (by kernel_rfl)) f27_0_p4Q)
def f27_0_p5V (l : List Int) (bl : Bool) (x : Int) (p0 : Int) (p1 : Int) (σ : Nat → Nat) : Val := (valL ([.int .i64 x, .int .i64 (List.length l : Int), .int .i64 p0, .int .i64 p1, .bool (decide (p0 < p1)), .bool (decide (p0 < (List.length l : Int)))]) ([.im (List.map eI l) bl]) [] σ 0)
def f27_0_p5F : Facts := ⟨(List.append (α := AOp × AV) [(.bin .lss (cT 2) (cT 3), (vt 4)), (.bin .lss (cT 2) (cT 1), (vt 5))] [mF 4, mF 5]), [], [], []⟩
theorem f27_0_p5Q : endS (fnOf FF 27) (stepK f27_0_p5F FF [0] 4000 (.lp (cutB (fnOf FF 27) 0) :: cutK (fnOf FF 27) 0) (.code (cutB (fnOf FF 27) 0)) (tmpl [0, 1, 6, 7, 8] f27_0W f27_0C)) = some (.tup [(vt 2), (.bool false)]) := by kernel_rfl
theorem f27_0_p5 (l : List Int) (bl : Bool) (x : Int) (p0 : Int) (p1 : Int) (h0 : ¬ (p0 < p1)) (h1 : ¬ (p0 < (List.length l : Int))) {z0 : St} {σ : Nat → Nat} (hσ : ∀ i j, σ i = σ j → i = j) (S : Sim (f27_0V l bl x p0 p1 σ) (tmpl [0, 1, 6, 7, 8] f27_0W f27_0C) z0) : J FF (fnOf FF 27) (.lp (cutB (fnOf FF 27) 0) :: cutK (fnOf FF 27) 0) (.code (cutB (fnOf FF 27) 0)) z0 (.tup [(.int .i64 p0), (.bool false)]) :=
  jR (R := gm (f27_0_p5V l bl x p0 p1 σ) (.tup [(vt 2), (.bool false)])) (by kernel_rfl) (J_end (show Hold FF (f27_0_p5V l bl x p0 p1 σ) f27_0_p5F from ⟨(valL_good hσ (okL (by kernel_rfl)) (.c (OkF.im eI_ok _ _) <| .n) (.n)),
    holdF_of (AllP.append (rflF fun _ => by kernel_rfl) (.c (fT (by kernel_rfl) (decide_eq_false h0)) <| .c (fT (by kernel_rfl) (decide_eq_false h1)) <| .n)),
    holdA_of (.n),
    holdN_of (.n),
    holdS_of (.n)⟩) (S.more (ρ' := (f27_0_p5V l bl x p0 p1 σ)) (s0 := σ) (n0 := 0) rfl rfl rfl rfl (f27_0E l bl x p0 p1 σ) (f27_0G l bl x p0 p1 σ) (by kernel_rfl) (by kernel_rfl)) f27_0_p5Q)
theorem f27_0_ok : ∀ (fu : Nat) (l : List Int) (bl : Bool) (x : Int) (p0 : Int) (p1 : Int) {r0 : AV} {z0 : St} {σ : Nat → Nat}, (∀ i j, σ i = σ j → i = j) → f27_0 fu l bl x p0 p1 = some r0 → Sim (f27_0V l bl x p0 p1 σ) (tmpl [0, 1, 6, 7, 8] f27_0W f27_0C) z0 → J FF (fnOf FF 27) (cutK (fnOf FF 27) 0) (.code (.loop (cutB (fnOf FF 27) 0))) z0 r0 := by
  intro fu
  induction fu with
  | zero =>
    intro _ _ _ _ _ _ _ _ _ h _
    unfold f27_0 at h
    cases h
  | succ fu ih =>
    intro l bl x p0 p1 r0 z0 σ hσ h S
    unfold f27_0 at h
    exact J_enter (iteE h (fun h0 h => reqE h (fun h1 h => bindE h (fun x2 h2 h => iteE h (fun h3 h => f27_0_p0 l bl x p0 p1 h0 h1 x2 h2 h3 hσ S (fun σ1 c1 hi S1 => ih _ _ _ _ _ hi h S1)) (fun h3 h => f27_0_p1 l bl x p0 p1 h0 h1 x2 h2 h3 hσ S (fun σ1 c1 hi S1 => ih _ _ _ _ _ hi h S1))))) (fun h0 h => iteE h (fun h1 h => reqE h (fun h2 h => bindE h (fun x3 h3 h => iteE h (fun h4 h => jE h (f27_0_p2 l bl x p0 p1 h0 h1 h2 x3 h3 h4 hσ S)) (fun h4 h => iteE h (fun h5 h => jE h (f27_0_p3 l bl x p0 p1 h0 h1 h2 x3 h3 h4 h5 hσ S)) (fun h5 h => jE h (f27_0_p4 l bl x p0 p1 h0 h1 h2 x3 h3 h4 h5 hσ S)))))) (fun h1 h => jE h (f27_0_p5 l bl x p0 p1 h0 h1 hσ S))))
def f27 (fu : Nat) (l : List Int) (bl : Bool) (x : Int) : Option AV :=
  f27_0 fu l bl x 0 (List.length l : Int)
def f27W : List AV := [(vf 0), (vt 0)]
def f27V (l : List Int) (bl : Bool) (x : Int) (σ : Nat → Nat) : Val := (valL ([.int .i64 x]) ([.im (List.map eI l) bl]) [] σ 0)
def f27X (l : List Int) (bl : Bool) (x : Int) (_σ : Nat → Nat) : List AV := [(.im (List.map eI l) bl), (.int .i64 x)]
def f27Y (_l : List Int) (_bl : Bool) (_x : Int) (_σ : Nat → Nat) : List Blk := []
theorem f27E (l : List Int) (bl : Bool) (x : Int) (σ : Nat → Nat) : f27W.map (gm (f27V l bl x σ)) = f27X l bl x σ := by kernel_rfl
theorem f27G (l : List Int) (bl : Bool) (x : Int) (σ : Nat → Nat) : ([] : List Blk).map (gB (f27V l bl x σ)) = f27Y l bl x σ := by kernel_rfl
def f27_p0V (l : List Int) (bl : Bool) (x : Int) (σ : Nat → Nat) : Val := (valL ([.int .i64 x, .int .i64 (List.length l : Int)]) ([.im (List.map eI l) bl]) [] σ 0)
def f27_p0F : Facts := ⟨(List.append (α := AOp × AV) [] [(.len 0 (cF 0), (vt 1))]), [], [], []⟩
theorem f27_p0Q : keep [0, 1, 6, 7, 8] [] (stepK f27_p0F FF [0] 4000 [] (.code (fnOf FF 27).body) (tmpl (List.range f27W.length) f27W [])) = some (cutK (fnOf FF 27) 0, .loop (cutB (fnOf FF 27) 0), [(vf 0), (vt 0), (vt 1), (.int .i64 0), (vt 1)], [], 0) := by kernel_rfl
theorem f27_p0 (l : List Int) (bl : Bool) (x : Int) {z0 : St} {σ : Nat → Nat} (hσ : ∀ i j, σ i = σ j → i = j) (S : Sim (f27V l bl x σ) (tmpl (List.range f27W.length) f27W []) z0) {r0 : AV} (hj : ∀ (σ1 : Nat → Nat) (c1 : St), (∀ i j, σ1 i = σ1 j → i = j) → Sim (f27_0V l bl x 0 (List.length l : Int) σ1) (tmpl [0, 1, 6, 7, 8] f27_0W f27_0C) c1 → J FF (fnOf FF 27) (cutK (fnOf FF 27) 0) (.code (.loop (cutB (fnOf FF 27) 0))) c1 r0) : J FF (fnOf FF 27) [] (.code (fnOf FF 27).body) z0 r0 :=
  J_next (show Hold FF (f27_p0V l bl x σ) f27_p0F from ⟨(valL_good hσ (okL (by kernel_rfl)) (.c (OkF.im eI_ok _ _) <| .n) (.n)),
    holdF_of (AllP.append (rflF fun _ => by kernel_rfl) (.c (fLen (e := eI) (l := l) (b := bl) (by kernel_rfl) (by kernel_rfl)) <| .n)),
    holdA_of (.n),
    holdN_of (.n),
    holdS_of (.n)⟩) (S.more (ρ' := (f27_p0V l bl x σ)) (s0 := σ) (n0 := 0) rfl rfl rfl rfl (f27E l bl x σ) (f27G l bl x σ) (by kernel_rfl) (by kernel_rfl)) f27_p0Q f27_0W f27_0C (f27_0V l bl x 0 (List.length l : Int) (sig σ [] 0)) (X := f27_0X l bl x 0 (List.length l : Int) (sig σ [] 0)) (Y := f27_0Y l bl x 0 (List.length l : Int) (sig σ [] 0)) rfl rfl (by kernel_rfl) (f27_0E l bl x 0 (List.length l : Int) _) (by kernel_rfl) (f27_0G l bl x 0 (List.length l : Int) _) (fun c1 hi S2 => hj _ c1 hi S2)
theorem f27_ok {fu : Nat} (l : List Int) (bl : Bool) (x : Int) {r0 : AV} (h : f27 fu l bl x = some r0) : Spec FF 27 [(.im (List.map eI l) bl), (.int .i64 x)] r0 := by
  unfold f27 at h
  have hσ : ∀ i j : Nat, (fun i : Nat => i) i = (fun i : Nat => i) j → i = j := fun _ _ e => e
  exact spec_begin (ρ := f27V l bl x (fun i => i)) (xs := f27W) (by kernel_rfl) rfl rfl (by kernel_rfl) (fun z0 S => f27_p0 l bl x hσ S (fun σ1 c1 hi S1 => f27_0_ok _ _ _ _ _ _ hi h S1))

def f31 (m : Md) (at' : Int) : Option AV :=
  Option.bind (withF m.k.l at' 1 ([] : List Int)) fun x0 =>
  Option.bind (withF m.v.l at' 1 ([] : List Int)) fun x1 =>
  some (Md.av (Md.setV (Md.setK m ⟨x0.l, x0.c⟩) ⟨x1.l, x1.c⟩))
def f31W : List AV := [(.agg (vF 0 10 ++ vT 0 32)), (vt 32)]
def f31V (m : Md) (at' : Int) (σ : Nat → Nat) : Val := (valL (ap (mdT m) ([.int .i64 at'])) (mdF m) [] σ 0)
def f31X (m : Md) (at' : Int) (_σ : Nat → Nat) : List AV := [(Md.av m), (.int .i64 at')]
def f31Y (_m : Md) (_at' : Int) (_σ : Nat → Nat) : List Blk := []
theorem f31E (m : Md) (at' : Int) (σ : Nat → Nat) : f31W.map (gm (f31V m at' σ)) = f31X m at' σ := by kernel_rfl
theorem f31G (m : Md) (at' : Int) (σ : Nat → Nat) : ([] : List Blk).map (gB (f31V m at' σ)) = f31Y m at' σ := by kernel_rfl
def f31_p0V (m : Md) (at' : Int) (x0 : Sl) (x1 : Sl) (σ : Nat → Nat) : Val := (valL (ap (mdT m) ([.int .i64 at'])) (ap (mdF m) ([.im (List.map eI x0.l) x0.c, .im (List.map eI x1.l) x1.c])) [] σ 0)
def f31_p0F : Facts := ⟨(List.append (α := AOp × AV) [] []), [], [], [(46, [(vf 8), (vt 32), (.int .i64 1), (.im [] true)], (vf 10)), (46, [(vf 9), (vt 32), (.int .i64 1), (.im [] true)], (vf 11))]⟩
theorem f31_p0Q : endS (fnOf FF 31) (stepK f31_p0F FF [] 4000 [] (.code (fnOf FF 31).body) (tmpl (List.range f31W.length) f31W [])) = some (.agg (vF 0 8 ++ [(vf 10), (vf 11)] ++ vT 0 32)) := by kernel_rfl
theorem f31_p0 (m : Md) (at' : Int) (x0 : Sl) (h0 : withF m.k.l at' 1 ([] : List Int) = some x0) (x1 : Sl) (h1 : withF m.v.l at' 1 ([] : List Int) = some x1) {z0 : St} {σ : Nat → Nat} (hσ : ∀ i j, σ i = σ j → i = j) (S : Sim (f31V m at' σ) (tmpl (List.range f31W.length) f31W []) z0) : J FF (fnOf FF 31) [] (.code (fnOf FF 31).body) z0 (Md.av (Md.setV (Md.setK m ⟨x0.l, x0.c⟩) ⟨x1.l, x1.c⟩)) :=
  jR (R := gm (f31_p0V m at' x0 x1 σ) (.agg (vF 0 8 ++ [(vf 10), (vf 11)] ++ vT 0 32))) (by kernel_rfl) (J_end (show Hold FF (f31_p0V m at' x0 x1 σ) f31_p0F from ⟨(valL_good hσ (okL (by kernel_rfl)) (AllP.ap (mdF_ok m) (.c (OkF.im eI_ok _ _) <| .c (OkF.im eI_ok _ _) <| .n)) (.n)),
    holdF_of (AllP.append (rflF fun _ => by kernel_rfl) (.n)),
    holdA_of (.n),
    holdN_of (.n),
    holdS_of (.c (sC (with0_ok m.k.c true h0 rfl) (by kernel_rfl) (by kernel_rfl)) <| .c (sC (with0_ok m.v.c true h1 rfl) (by kernel_rfl) (by kernel_rfl)) <| .n)⟩) (S.more (ρ' := (f31_p0V m at' x0 x1 σ)) (s0 := σ) (n0 := 0) rfl rfl rfl rfl (f31E m at' σ) (f31G m at' σ) (by kernel_rfl) (by kernel_rfl)) f31_p0Q)
theorem f31_ok (m : Md) (at' : Int) {r0 : AV} (h : f31 m at' = some r0) : Spec FF 31 [(Md.av m), (.int .i64 at')] r0 := by
  unfold f31 at h
  have hσ : ∀ i j : Nat, (fun i : Nat => i) i = (fun i : Nat => i) j → i = j := fun _ _ e => e
  exact spec_begin (ρ := f31V m at' (fun i => i)) (xs := f31W) (by kernel_rfl) rfl rfl (by kernel_rfl) (fun z0 S => bindE h (fun x0 h0 h => bindE h (fun x1 h1 h => jE h (f31_p0 m at' x0 h0 x1 h1 hσ S))))

end Go.Proofs.Hz
open Go Go.Proofs
namespace Go.Proofs.Hz
theorem f31_eq {m : Md} {a : Int} {y : Md} (h : cutF m a = some y) : f31 m a = some y.av := by
  unfold cutF at h
  unfold f31
  cases h1 : withF m.k.l a 1 [] with
  | none => rw [h1] at h; cases h
  | some k =>
    rw [h1] at h
    cases h2 : withF m.v.l a 1 [] with
    | none => rw [h2] at h; cases h
    | some v => rw [h2] at h; cases h; rfl
theorem w64_idc {n : Int} (h : -9223372036854775808 ≤ n ∧ n < 9223372036854775808) : w64 n = n := by
  unfold w64 IntKind.wrap
  simp [IntKind.signed, IntKind.bits]
  omega
/-- The middle. -/
theorem mid_eq {i j : Nat} (h : i ≤ 1000000) (h2 : j ≤ 1000000) : IntKind.wrap .i64 (shT .shr .u64 (IntKind.wrap .u64 (w64 ((i : Int) + (j : Int)))) 1) = (((i + j) / 2 : Nat) : Int) := by
  rw [w64_idc (by omega)]
  have h1 : IntKind.wrap .u64 ((i : Int) + (j : Int)) = ((i + j : Nat) : Int) := by
    unfold IntKind.wrap
    simp [IntKind.signed, IntKind.bits]
    omega
  rw [h1]
  have h3 : shT .shr .u64 ((i + j : Nat) : Int) 1 = (((i + j) / 2 : Nat) : Int) := by
    have hn : ¬ ((1 : Int) < 0) := by omega
    simp only [shT, shBin, if_neg hn, IntKind.bits]
    rw [Int.fdiv_eq_ediv_of_nonneg _ (by simp)]
    simp
  rw [h3]
  have := w64_idc (n := (((i + j) / 2 : Nat) : Int)) (by omega)
  exact this
theorem lbF_le (l : List Int) (x : Int) : lbF l x ≤ l.length := (List.takeWhile_prefix _).length_le
theorem takeWhile_get {p : Int → Bool} : ∀ (l : List Int) (i : Nat) (h : i < l.length), i < (l.takeWhile p).length → p l[i] = true
  | [], i, h, _ => by simp at h
  | a :: l, i, h, hi => by
    rw [List.takeWhile_cons] at hi
    split at hi
    · rename_i hp
      cases i with
      | zero => simpa using hp
      | succ i =>
        simp only [List.length_cons] at hi h
        simpa using takeWhile_get l i (by omega) (by omega)
    · simp at hi
theorem takeWhile_stop {p : Int → Bool} : ∀ (l : List Int) (h : (l.takeWhile p).length < l.length), p l[(l.takeWhile p).length] = false
  | [], h => by simp at h
  | a :: l, h => by
    by_cases hp : p a = true
    · have e : (a :: l).takeWhile p = a :: l.takeWhile p := by simp [hp]
      have h' : (l.takeWhile p).length < l.length := by rw [e] at h; simpa using h
      have := takeWhile_stop l h'
      simp only [e, List.length_cons, List.getElem_cons_succ]
      exact this
    · have e : (a :: l).takeWhile p = [] := by simp [hp]
      simp only [e, List.length_nil, List.getElem_cons_zero]
      simpa using hp
/-- Below the place all is less; from there on nothing is. -/
theorem lb_lt {l : List Int} {x : Int} {i : Nat} (h : i < l.length) (hi : i < lbF l x) : l[i] < x := by
  have := takeWhile_get l i h hi; simpa using this
theorem lb_ge {l : List Int} {x : Int} (hs : l.Pairwise (· < ·)) {i : Nat} (h : i < l.length) (hi : lbF l x ≤ i) : x ≤ l[i] := by
  have h1 : lbF l x < l.length := by omega
  have h2 := takeWhile_stop (p := fun y => decide (y < x)) l h1
  have h3 : x ≤ l[lbF l x] := by
    exact Int.not_lt.1 (of_decide_eq_false h2)
  by_cases e : lbF l x = i
  · subst e; exact h3
  · have := List.pairwise_iff_getElem.1 hs (lbF l x) i h1 h (by omega)
    omega
theorem mem_lb {l : List Int} {x : Int} (hs : l.Pairwise (· < ·)) : x ∈ l ↔ ∃ h : lbF l x < l.length, l[lbF l x] = x := by
  constructor
  · intro hm
    obtain ⟨i, hi, e⟩ := List.getElem_of_mem hm
    have h1 : lbF l x ≤ i := by
      by_cases h : i < lbF l x
      · have := lb_lt hi h; omega
      · omega
    have h2 : ¬ lbF l x < i := fun hlt => by
      have h3 := List.pairwise_iff_getElem.1 hs (lbF l x) i (by omega) hi hlt
      have h4 := lb_ge hs (x := x) (i := lbF l x) (by omega) (Nat.le_refl _)
      omega
    have h3 : lbF l x = i := by omega
    exact ⟨by omega, by simp only [h3]; exact e⟩
  · rintro ⟨h, e⟩
    rw [← e]; exact List.getElem_mem h
theorem f27_0_eq {l : List Int} (bl : Bool) {x : Int} (hs : l.Pairwise (· < ·)) (hl : l.length ≤ 1000000) : ∀ (k i j : Nat), i ≤ lbF l x → lbF l x ≤ j → j ≤ l.length → j - i < k → f27_0 k l bl x i j = some (.tup [.int .i64 (lbF l x : Nat), .bool (decide (x ∈ l))]) := by
  intro k
  induction k with
  | zero => intro i j _ _ _ h; omega
  | succ k ih =>
    intro i j h1 h2 h3 h4
    unfold f27_0
    by_cases h : i < j
    · rw [if_pos (by omega), mid_eq (by omega) (by omega), if_pos (by omega), Int.toNat_natCast, List.getElem?_eq_getElem (show (i + j) / 2 < l.length by omega)]
      simp only [Option.bind_some, lessF, decide_eq_true_eq]
      by_cases hlt : l[(i + j) / 2] < x
      · rw [if_pos hlt, w64_idc (by omega), show (((i + j) / 2 : Nat) : Int) + 1 = (((i + j) / 2 + 1 : Nat) : Int) by omega]
        refine ih _ _ ?_ h2 h3 (by omega)
        have : ¬ lbF l x ≤ (i + j) / 2 := fun hle => by
          have := lb_ge hs (x := x) (i := (i + j) / 2) (by omega) hle; omega
        omega
      · rw [if_neg hlt]
        refine ih _ _ h1 ?_ (by omega) (by omega)
        by_cases hle : lbF l x ≤ (i + j) / 2
        · exact hle
        · exact absurd (lb_lt (x := x) (i := (i + j) / 2) (by omega) (by omega)) hlt
    · have hij : i = lbF l x := by omega
      rw [if_neg (by omega), hij]
      by_cases hlt : lbF l x < l.length
      · rw [if_pos (by omega), if_pos (by omega), Int.toNat_natCast, List.getElem?_eq_getElem hlt]
        simp only [Option.bind_some]
        by_cases e : l[lbF l x] = x
        · rw [if_pos e]
          have : x ∈ l := (mem_lb hs).2 ⟨hlt, e⟩
          simp [this]
        · rw [if_neg e]
          have : ¬ x ∈ l := fun hm => e ((mem_lb hs).1 hm).2
          simp [isNaNF, this]
      · rw [if_neg (by omega)]
        have : ¬ x ∈ l := fun hm => hlt ((mem_lb hs).1 hm).1
        simp [this]
theorem f27_eq {l : List Int} (bl : Bool) {x : Int} {y : Int × Bool} (h : searchF l x = some y) : f27 (l.length + 1) l bl x = some (.tup [.int .i64 y.1, .bool y.2]) := by
  unfold searchF at h
  split at h
  · rename_i hc
    cases h
    unfold f27
    have := f27_0_eq bl (x := x) hc.1 hc.2 (l.length + 1) 0 l.length (Nat.zero_le _) (lbF_le _ _) (Nat.le_refl _) (by omega)
    exact this
  · cases h
theorem search_ok (b : Bool) {l : List Int} {x : Int} {y : Int × Bool} (h : searchF l x = some y) : Spec FF 27 [.im (l.map eI) b, .int .i64 x] (.tup [.int .i64 y.1, .bool y.2]) := f27_ok l b x (f27_eq b h)
theorem cut_ok {m : Md} {a : Int} {y : Md} (h : cutF m a = some y) : Spec FF 31 [m.av, .int .i64 a] y.av := f31_ok m a (f31_eq h)
end Go.Proofs.Hz
open Go Go.Proofs
namespace Go.Proofs.Hz
def f30 (m : Md) (name : Int) (val : Int) : Option AV :=
  Option.bind (searchF m.k.l name) fun x0 =>
  Option.bind (withF m.k.l x0.1 0 [name]) fun x1 =>
  Option.bind (withF m.v.l x0.1 0 [val]) fun x2 =>
  some (Md.av (Md.setV (Md.setK m ⟨x1.l, x1.c⟩) ⟨x2.l, x2.c⟩))
def f30W : List AV := [(.agg (vF 0 10 ++ vT 0 32)), (vt 32), (vt 33)]
def f30V (m : Md) (name : Int) (val : Int) (σ : Nat → Nat) : Val := (valL (ap (mdT m) ([.int .i64 name, .int .i64 val])) (mdF m) [] σ 0)
def f30X (m : Md) (name : Int) (val : Int) (_σ : Nat → Nat) : List AV := [(Md.av m), (.int .i64 name), (.int .i64 val)]
def f30Y (_m : Md) (_name : Int) (_val : Int) (_σ : Nat → Nat) : List Blk := []
theorem f30E (m : Md) (name : Int) (val : Int) (σ : Nat → Nat) : f30W.map (gm (f30V m name val σ)) = f30X m name val σ := by kernel_rfl
theorem f30G (m : Md) (name : Int) (val : Int) (σ : Nat → Nat) : ([] : List Blk).map (gB (f30V m name val σ)) = f30Y m name val σ := by kernel_rfl
def f30_p0V (m : Md) (name : Int) (val : Int) (x0 : Int × Bool) (x1 : Sl) (x2 : Sl) (σ : Nat → Nat) : Val := (valL (ap (mdT m) ([.int .i64 name, .int .i64 val, .int .i64 x0.1, .bool x0.2])) (ap (mdF m) ([.im (List.map eI x1.l) x1.c, .im (List.map eI x2.l) x2.c])) [] σ 0)
def f30_p0F : Facts := ⟨(List.append (α := AOp × AV) [] []), [], [], [(27, [(vf 8), (vt 32)], (.tup [(vt 34), (vt 35)])), (46, [(vf 8), (vt 34), (.int .i64 0), (.im [[(vt 32)]] true)], (vf 10)), (46, [(vf 9), (vt 34), (.int .i64 0), (.im [[(vt 33)]] true)], (vf 11))]⟩
theorem f30_p0Q : endS (fnOf FF 30) (stepK f30_p0F FF [] 4000 [] (.code (fnOf FF 30).body) (tmpl (List.range f30W.length) f30W [])) = some (.agg (vF 0 8 ++ [(vf 10), (vf 11)] ++ vT 0 32)) := by kernel_rfl
theorem f30_p0 (m : Md) (name : Int) (val : Int) (x0 : Int × Bool) (h0 : searchF m.k.l name = some x0) (x1 : Sl) (h1 : withF m.k.l x0.1 0 [name] = some x1) (x2 : Sl) (h2 : withF m.v.l x0.1 0 [val] = some x2) {z0 : St} {σ : Nat → Nat} (hσ : ∀ i j, σ i = σ j → i = j) (S : Sim (f30V m name val σ) (tmpl (List.range f30W.length) f30W []) z0) : J FF (fnOf FF 30) [] (.code (fnOf FF 30).body) z0 (Md.av (Md.setV (Md.setK m ⟨x1.l, x1.c⟩) ⟨x2.l, x2.c⟩)) :=
  jR (R := gm (f30_p0V m name val x0 x1 x2 σ) (.agg (vF 0 8 ++ [(vf 10), (vf 11)] ++ vT 0 32))) (by kernel_rfl) (J_end (show Hold FF (f30_p0V m name val x0 x1 x2 σ) f30_p0F from ⟨(valL_good hσ (okL (by kernel_rfl)) (AllP.ap (mdF_ok m) (.c (OkF.im eI_ok _ _) <| .c (OkF.im eI_ok _ _) <| .n)) (.n)),
    holdF_of (AllP.append (rflF fun _ => by kernel_rfl) (.n)),
    holdA_of (.n),
    holdN_of (.n),
    holdS_of (.c (sC (search_ok m.k.c h0) (by kernel_rfl) (by kernel_rfl)) <| .c (sC (with1_ok m.k.c h1) (by kernel_rfl) (by kernel_rfl)) <| .c (sC (with1_ok m.v.c h2) (by kernel_rfl) (by kernel_rfl)) <| .n)⟩) (S.more (ρ' := (f30_p0V m name val x0 x1 x2 σ)) (s0 := σ) (n0 := 0) rfl rfl rfl rfl (f30E m name val σ) (f30G m name val σ) (by kernel_rfl) (by kernel_rfl)) f30_p0Q)
theorem f30_ok (m : Md) (name : Int) (val : Int) {r0 : AV} (h : f30 m name val = some r0) : Spec FF 30 [(Md.av m), (.int .i64 name), (.int .i64 val)] r0 := by
  unfold f30 at h
  have hσ : ∀ i j : Nat, (fun i : Nat => i) i = (fun i : Nat => i) j → i = j := fun _ _ e => e
  exact spec_begin (ρ := f30V m name val (fun i => i)) (xs := f30W) (by kernel_rfl) rfl rfl (by kernel_rfl) (fun z0 S => bindE h (fun x0 h0 h => bindE h (fun x1 h1 h => bindE h (fun x2 h2 h => jE h (f30_p0 m name val x0 h0 x1 h1 x2 h2 hσ S)))))

end Go.Proofs.Hz
open Go Go.Proofs
namespace Go.Proofs.Hz
theorem f30_eq {m : Md} {n v : Int} {y : Md} (h : laidF m n v = some y) : f30 m n v = some y.av := by
  unfold laidF at h
  unfold f30
  cases h0 : searchF m.k.l n with
  | none => rw [h0] at h; cases h
  | some s =>
    rw [h0] at h
    simp only [Option.bind_some] at h ⊢
    cases h1 : withF m.k.l s.1 0 [n] with
    | none => rw [h1] at h; cases h
    | some k =>
      rw [h1] at h
      simp only [Option.bind_some] at h ⊢
      cases h2 : withF m.v.l s.1 0 [v] with
      | none => rw [h2] at h; cases h
      | some w => rw [h2] at h; cases h; rfl
theorem laid_ok {m : Md} {n v : Int} {y : Md} (h : laidF m n v = some y) : Spec FF 30 [m.av, .int .i64 n, .int .i64 v] y.av := f30_ok m n v (f30_eq h)
end Go.Proofs.Hz
