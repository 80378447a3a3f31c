/-
  Chapter 17: walks through functions (part b), written by a program of our own (wip/tools).
  Conditions: none.
-/
import Derived.Test.YtpidaficnfaedaaWa
open Go Go.Proofs
namespace Go.Proofs.Hz
theorem w64_id {n : Int} (h : -9223372036854775808 ≤ n ∧ n < 9223372036854775808) : w64 n = n := by
  unfold w64 IntKind.wrap
  simp [IntKind.signed, IntKind.bits]
  omega
theorem get_lt {l : List Int} {i : Nat} (h : i < l.length) : l[i]? = some l[i] := List.getElem?_eq_getElem h
theorem f33_0_eq (l m : List Int) (bl bm : Bool) (hl : l.length = m.length) (hb : l.length ≤ 1000000) : ∀ (k : Nat) (i : Nat), i ≤ l.length → k = l.length - i + 1 → f33_0 k l bl m bm i = some (.bool (decide (l.drop i = m.drop i))) := by
  intro k
  induction k with
  | zero => intro i _ h; omega
  | succ k ih =>
    intro i hi hk
    unfold f33_0
    by_cases h : i < l.length
    · have hm : i < m.length := by omega
      rw [if_pos (by omega), if_pos (by omega), Int.toNat_natCast, get_lt h, get_lt hm]
      simp only [Option.bind_some]
      have hd : (l.drop i = m.drop i) ↔ (l[i] = m[i] ∧ l.drop (i + 1) = m.drop (i + 1)) := by rw [List.drop_eq_getElem_cons h, List.drop_eq_getElem_cons hm, List.cons.injEq]
      by_cases e : l[i] = m[i]
      · rw [if_pos e, w64_id (by omega), show ((i : Int) + 1) = ((i + 1 : Nat) : Int) by omega, ih (i + 1) (by omega) (by omega)]
        simp only [hd, e, true_and]
      · rw [if_neg e]; simp only [hd, e, false_and, decide_false]
    · have e1 : i = l.length := by omega
      rw [if_neg (by omega)]
      have h1 : l.drop i = [] := by simp [e1]
      have h2 : m.drop i = [] := by simp [e1, hl]
      simp [h1, h2]
theorem f33_eq (l m : List Int) (bl bm : Bool) (hb : l.length ≤ 1000000) : f33 (l.length + 1) l bl m bm = some (.bool (eqL l m)) := by
  unfold f33 eqL
  by_cases h : l.length = m.length
  · rw [if_pos (by omega), show (0 : Int) = ((0 : Nat) : Int) from rfl, f33_0_eq l m bl bm h hb _ 0 (by omega) (by omega)]
    simp
  · rw [if_neg (by omega)]
    have : ¬ l = m := fun e => h (by rw [e])
    simp [this]
theorem f28_eq {m : Md} {p : Int} {l : List Int} {bl : Bool} {y : Md} (h : sentF m p ⟨l, bl⟩ = some y) : f28 m p l bl = some y.av := by
  unfold sentF at h
  split at h
  · rename_i hp
    cases h
    obtain ⟨j, rfl⟩ : ∃ j : Nat, p = j := ⟨p.toNat, by omega⟩
    have : j = 0 ∨ j = 1 ∨ j = 2 ∨ j = 3 ∨ j = 4 ∨ j = 5 ∨ j = 6 ∨ j = 7 := by omega
    rcases this with rfl | rfl | rfl | rfl | rfl | rfl | rfl | rfl <;> simp [f28]
  · cases h
theorem f32_eq {m : Md} {e : Int} {y : Md × Int} (h : testedF m e = some y) : f32 m e = some (.tup [y.1.av, .int .i64 y.2]) := by
  unfold testedF at h
  split at h
  · rename_i hp
    cases h
    obtain ⟨j, rfl⟩ : ∃ j : Nat, e = j := ⟨e.toNat, by omega⟩
    have : j = 0 ∨ j = 1 ∨ j = 2 ∨ j = 3 ∨ j = 4 ∨ j = 5 ∨ j = 6 ∨ j = 7 ∨ j = 8 ∨ j = 9 ∨ j = 10 ∨ j = 11 ∨ j = 12 ∨ j = 13 ∨ j = 14 ∨ j = 15 := by omega
    rcases this with rfl | rfl | rfl | rfl | rfl | rfl | rfl | rfl | rfl | rfl | rfl | rfl | rfl | rfl | rfl | rfl <;> (unfold f32; simp; split <;> simp_all)
  · cases h
theorem upF_drop : ∀ (l : List Int), upF l = (l.all (fun x => decide (0 ≤ x ∧ x ≤ 65535)) && decide (l.Pairwise (· < ·)))
  | [] => by simp [upF]
  | [x] => by simp [upF]
  | x :: y :: l => by
    unfold upF
    rw [upF_drop (y :: l), Bool.eq_iff_iff]
    simp only [Bool.and_eq_true, decide_eq_true_eq, List.all_cons, List.pairwise_cons, List.mem_cons, List.all_eq_true]
    constructor
    · rintro ⟨hx, hxy, ⟨hy, ha⟩, hp1, hp2⟩
      refine ⟨⟨hx, hy, ha⟩, fun z hz => ?_, hp1, hp2⟩
      rcases hz with rfl | hz
      · exact hxy
      · have := hp1 z hz; omega
    · rintro ⟨⟨hx, hy, ha⟩, h1, hp1, hp2⟩
      exact ⟨hx, h1 y (.inl rfl), ⟨hy, ha⟩, hp1, hp2⟩
/-- From a place on: names, and rising. -/
def UpAt (l : List Int) (i : Nat) : Prop := (∀ x ∈ l.drop i, 0 ≤ x ∧ x ≤ 65535) ∧ ∀ j, i ≤ j + 1 → ∀ (h : j + 1 < l.length), l[j] < l[j + 1]
theorem f19_2_eq (m : Md) (hb : m.k.l.length ≤ 1000000) : ∀ (k i : Nat), i ≤ m.k.l.length → k = m.k.l.length - i + 1 → (∀ j, j + 1 < i → ∀ (h : j + 1 < m.k.l.length), m.k.l[j] < m.k.l[j + 1]) → 
    ∃ b : Bool, f19_2 k m i = some (.bool (b && decide (m.v.l.length = m.k.l.length))) ∧ (b = true ↔ UpAt m.k.l i) := by
  intro k
  induction k with
  | zero => intro i _ h; omega
  | succ k ih =>
    intro i hi hk hp
    unfold f19_2
    by_cases h : i < m.k.l.length
    · rw [if_pos (by omega), if_pos (by omega), Int.toNat_natCast, get_lt h]
      simp only [Option.bind_some]
      have hd : m.k.l.drop i = m.k.l[i] :: m.k.l.drop (i + 1) := List.drop_eq_getElem_cons h
      have step : (∀ j, j + 1 < i + 1 → ∀ (h : j + 1 < m.k.l.length), m.k.l[j] < m.k.l[j + 1]) → 0 ≤ m.k.l[i] → m.k.l[i] ≤ 65535 → ∃ b : Bool, f19_2 k m (w64 ((i : Int) + 1)) = some (.bool (b && decide (m.v.l.length = m.k.l.length))) ∧ (b = true ↔ UpAt m.k.l i) := fun hp' h0 h1 => by
        rw [w64_id (by omega), show ((i : Int) + 1) = ((i + 1 : Nat) : Int) by omega]
        obtain ⟨b, hb1, hb2⟩ := ih (i + 1) (by omega) (by omega) hp'
        refine ⟨b, hb1, hb2.trans ?_⟩
        unfold UpAt
        rw [hd]
        constructor
        · rintro ⟨a, b⟩
          refine ⟨fun x hx => ?_, fun j hj h => ?_⟩
          · rcases List.mem_cons.1 hx with rfl | hx
            · exact ⟨h0, h1⟩
            · exact a x hx
          · by_cases hji : i + 1 ≤ j + 1
            · exact b j hji h
            · exact hp' j (by omega) h
        · rintro ⟨a, b⟩
          exact ⟨fun x hx => a x (List.mem_cons_of_mem _ hx), fun j hj h => b j (by omega) h⟩
      have no : ¬ UpAt m.k.l i → ∃ b : Bool, some (AV.bool false) = some (.bool (b && decide (m.v.l.length = m.k.l.length))) ∧ (b = true ↔ UpAt m.k.l i) := fun h => ⟨false, by simp, by simp [h]⟩
      by_cases h0 : m.k.l[i] < 0
      · rw [if_pos h0]
        exact no fun ⟨a, _⟩ => by have := a m.k.l[i] (by rw [hd]; exact List.mem_cons_self ..); omega
      rw [if_neg h0]
      by_cases h1 : m.k.l[i] > 65535
      · rw [if_pos h1]
        exact no fun ⟨a, _⟩ => by have := a m.k.l[i] (by rw [hd]; exact List.mem_cons_self ..); omega
      rw [if_neg h1]
      by_cases h2 : 0 < i
      · rw [if_pos (by omega), w64_id (by omega), if_pos (by omega), show ((i : Int) - 1).toNat = i - 1 by omega, get_lt (by omega : i - 1 < m.k.l.length)]
        simp only [Option.bind_some]
        by_cases h3 : m.k.l[i - 1] ≥ m.k.l[i]
        · rw [if_pos h3]
          exact no fun ⟨_, b⟩ => by
            have := b (i - 1) (by omega) (by omega)
            simp only [Nat.sub_add_cancel h2] at this
            omega
        · rw [if_neg h3]
          refine step (fun j hj h' => ?_) (by omega) (by omega)
          by_cases hji : j + 1 < i
          · exact hp j hji h'
          · obtain rfl : j = i - 1 := by omega
            simp only [Nat.sub_add_cancel h2]
            omega
      · rw [if_neg (by omega)]
        exact step (fun j hj _ => by omega) (by omega) (by omega)
    · rw [if_neg (by omega)]
      have e1 : m.k.l.drop i = [] := by simp; omega
      have hu : UpAt m.k.l i := ⟨(fun x hx => by rw [e1] at hx; cases hx), (fun j hj h' => by omega)⟩
      refine ⟨true, ?_, by simp [hu]⟩
      rw [Bool.true_and]
      congr 2
      rw [decide_eq_decide]
      omega
theorem pairwise_get {l : List Int} : l.Pairwise (· < ·) ↔ ∀ j (h : j + 1 < l.length), l[j] < l[j + 1] := by
  constructor
  · intro h j hj
    exact List.pairwise_iff_getElem.1 h j (j + 1) (by omega) hj (by omega)
  · intro h
    induction l with
    | nil => exact .nil
    | cons x l ih =>
      have ih' := ih fun j hj => by
        have := h (j + 1) (by simp; omega)
        simpa using this
      refine List.pairwise_cons.2 ⟨fun y hy => ?_, ih'⟩
      cases l with
      | nil => cases hy
      | cons z l =>
        have hz : x < z := by have := h 0 (by simp); simpa using this
        rcases List.mem_cons.1 hy with rfl | hy
        · exact hz
        · have := (List.pairwise_cons.1 ih').1 y hy; omega
theorem f19_eq (m : Md) (hb : m.k.l.length ≤ 1000000) : f19 (m.k.l.length + 1) m = some (.bool (rightF m)) := by
  have key : f19_2 (m.k.l.length + 1) m 0 = some (.bool (upF m.k.l && decide (m.v.l.length = m.k.l.length))) := by
    obtain ⟨b, h1, h2⟩ := f19_2_eq m hb (m.k.l.length + 1) 0 (by omega) (by omega) (fun j hj => by omega)
    rw [show (0 : Int) = ((0 : Nat) : Int) from rfl, h1]
    congr 3
    rw [upF_drop, Bool.eq_iff_iff, h2]
    simp only [UpAt, Bool.and_eq_true, decide_eq_true_eq, List.all_eq_true, List.drop_zero, pairwise_get]
    constructor
    · rintro ⟨a, b⟩; exact ⟨a, fun j h => b j (by omega) h⟩
    · rintro ⟨a, b⟩; exact ⟨a, fun j _ h => b j h⟩
  unfold f19 rightF
  simp only [key]
  simp only [List.range, List.range.loop, List.all_cons, List.all_nil, Bool.and_true]
  by_cases h0 : (m.q 0).l.length ≤ 1000
  · rw [if_neg (by omega)]
    by_cases h1 : (m.q 1).l.length ≤ 1000
    · rw [if_neg (by omega)]
      by_cases h2 : (m.q 2).l.length ≤ 1000
      · rw [if_neg (by omega)]
        by_cases h3 : (m.q 3).l.length ≤ 1000
        · rw [if_neg (by omega)]
          by_cases h4 : (m.q 4).l.length ≤ 1000
          · rw [if_neg (by omega)]
            by_cases h5 : (m.q 5).l.length ≤ 1000
            · rw [if_neg (by omega)]
              by_cases h6 : (m.q 6).l.length ≤ 1000
              · rw [if_neg (by omega)]
                by_cases h7 : (m.q 7).l.length ≤ 1000
                · rw [if_neg (by omega)]
                  simp only [h0, h1, h2, h3, h4, h5, h6, h7, decide_true, Bool.true_and]
                · rw [if_pos (by omega)]; simp [h7]
              · rw [if_pos (by omega)]; simp [h6]
            · rw [if_pos (by omega)]; simp [h5]
          · rw [if_pos (by omega)]; simp [h4]
        · rw [if_pos (by omega)]; simp [h3]
      · rw [if_pos (by omega)]; simp [h2]
    · rw [if_pos (by omega)]; simp [h1]
  · rw [if_pos (by omega)]; simp [h0]
theorem w64_id' {n : Int} (h : -9223372036854775808 ≤ n ∧ n < 9223372036854775808) : w64 n = n := by
  unfold w64 IntKind.wrap
  simp [IntKind.signed, IntKind.bits]
  omega
theorem lowF_nat (n : Int) : ∃ x : Nat, lowF n = x ∧ x < 65536 ∧ (x : Int) = n % 65536 := by
  refine ⟨(n % 65536).toNat, ?_, by omega, by omega⟩
  unfold lowF
  by_cases h : 0 ≤ n
  · rw [Int.tmod_eq_emod_of_nonneg h]; split <;> omega
  · obtain ⟨m, rfl⟩ : ∃ m : Nat, n = -(m : Int) := ⟨n.natAbs, by omega⟩
    rw [Int.neg_tmod]
    have : ((m : Int)).tmod 65536 = (m : Int) % 65536 := Int.tmod_eq_emod_of_nonneg (by omega)
    rw [this]
    split <;> omega
theorem rv_lt : ∀ (k x a b : Nat), a < 2 ^ b → rv k x a < 2 ^ (k + b)
  | 0, _, a, b, h => by simpa [rv] using h
  | k + 1, x, a, b, h => by
    have := rv_lt k (x / 2) (2 * a + x % 2) (b + 1) (by rw [Nat.pow_succ]; omega)
    rw [rv]
    rwa [show k + 1 + b = k + (b + 1) by omega]
theorem revF_nat (n : Int) : ∃ r : Nat, revF n = r ∧ r < 65536 := ⟨_, rfl, rv_lt 16 _ 0 0 (by simp)⟩
theorem bv_or {X Y : Nat} (hX : X < 2 ^ 62) (hY : Y < 2 ^ 62) : bvT .or .i64 (X : Int) (Y : Int) = ((X ||| Y : Nat) : Int) := by
  have h : X ||| Y < 2 ^ 62 := Nat.or_lt_two_pow hX hY
  have e : bvT .or .i64 (X : Int) (Y : Int) = w64 ((BitVec.ofInt 64 (X : Int) ||| BitVec.ofInt 64 (Y : Int)).toNat : Int) := rfl
  rw [e, BitVec.toNat_or]
  simp only [BitVec.ofInt_natCast, BitVec.toNat_ofNat]
  rw [Nat.mod_eq_of_lt (by omega), Nat.mod_eq_of_lt (by omega)]
  exact w64_id' (by omega)
theorem bv_and1 (z : Int) : bvT .and .i64 z 1 = z % 2 := by
  have e : bvT .and .i64 z 1 = w64 ((BitVec.ofInt 64 z &&& BitVec.ofInt 64 1).toNat : Int) := rfl
  rw [e, BitVec.toNat_and]
  have h1 : (BitVec.ofInt 64 1).toNat = 1 := by decide
  rw [h1, Nat.and_one_is_mod, BitVec.toNat_ofInt]
  rw [w64_id' (by omega)]
  omega
theorem sh_r (z : Int) (i : Nat) (hi : i ≤ 16) : shT .shr .i64 z (i : Int) = z / 2 ^ i := by
  have hn : ¬ ((i : Int) < 0) := by omega
  have hm : min i 64 = i := by omega
  have h0 : (0 : Int) ≤ 2 ^ i := by
    have : ((2 ^ i : Nat) : Int) = (2 : Int) ^ i := by simp
    rw [← this]; exact Int.natCast_nonneg _
  simp only [shT, shBin, if_neg hn, Int.toNat_natCast, IntKind.bits, hm]
  rw [Int.fdiv_eq_ediv_of_nonneg _ h0]
theorem sh_l (b : Nat) (j : Nat) (hb : b < 2) (hj : j ≤ 15) : shT .shl .i64 (b : Int) (j : Int) = ((b * 2 ^ j : Nat) : Int) := by
  have hn : ¬ ((j : Int) < 0) := by omega
  have hm : min j 64 = j := by omega
  have h15 : 2 ^ j ≤ 2 ^ 15 := Nat.pow_le_pow_right (by decide) hj
  have hb2 : b * 2 ^ j ≤ 1 * 2 ^ j := Nat.mul_le_mul_right _ (by omega)
  have := w64_id' (n := ((b * 2 ^ j : Nat) : Int)) (by omega)
  unfold w64 at this
  simp only [shT, shBin, if_neg hn, Int.toNat_natCast, IntKind.bits, hm]
  rw [show (b : Int) * 2 ^ j = ((b * 2 ^ j : Nat) : Int) by simp]
  exact this
theorem or_step (A b m : Nat) (hb : b < 2) : (A * 2 ^ (m + 1)) ||| (b * 2 ^ m) = (2 * A + b) * 2 ^ m := by
  have hlt : b * 2 ^ m < 2 ^ (m + 1) := by
    rw [Nat.pow_succ]
    have : b * 2 ^ m ≤ 1 * 2 ^ m := Nat.mul_le_mul_right _ (by omega)
    have := Nat.pow_pos (n := m) (show 0 < 2 by decide)
    omega
  have := Nat.shiftLeft_add_eq_or_of_lt hlt A
  rw [Nat.shiftLeft_eq] at this
  rw [← this, Nat.pow_succ, Nat.add_mul]
  congr 1
  rw [Nat.mul_comm (2 ^ m) 2, ← Nat.mul_assoc, Nat.mul_comm A 2]
theorem f49_0_eq (n : Int) : ∀ (k j : Nat) (x a : Nat), j + k = 16 → a < 2 ^ j → (x : Int) = (n % 65536) / 2 ^ j → f49_0 (k + 1) n ((a * 2 ^ k : Nat) : Int) (j : Int) = some (.int .i64 (rv k x a : Nat))
  | 0, j, x, a, hj, ha, hx => by
    unfold f49_0
    rw [if_neg (by omega)]
    simp [rv]
  | k + 1, j, x, a, hj, ha, hx => by
    have hj15 : j ≤ 15 := by omega
    have h2j : ((2 ^ j : Nat) : Int) = 2 ^ j := by simp
    have hpos := Nat.pow_pos (n := j) (show 0 < 2 by decide)
    unfold f49_0
    rw [if_pos (by omega), if_pos (by omega), w64_id' (n := 15 - (j : Int)) (by omega), if_pos (by omega), bv_and1, sh_r n j (by omega)]
    -- the bit
    have hbit : n / 2 ^ j % 2 = ((x % 2 : Nat) : Int) := by
      have h3 : (x : Int) % 2 = n / 2 ^ j % 2 := by
        rw [hx]
        have hd : (65536 : Int) = 2 ^ j * (2 * 2 ^ (15 - j)) := by
          rw [← Int.mul_assoc, Int.mul_comm (2 ^ j) 2, Int.mul_assoc, ← Int.pow_add, show j + (15 - j) = 15 by omega]
          decide
        generalize hp : (2 : Int) ^ j = p at *
        have hp0 : 0 < p := by omega
        have h5 := Int.add_mul_ediv_left (n % 65536) (2 * 2 ^ (15 - j) * (n / 65536)) (show p ≠ 0 by omega)
        have h6 : n % 65536 + p * (2 * 2 ^ (15 - j) * (n / 65536)) = n := by
          rw [← Int.mul_assoc, ← hd]; omega
        rw [h6] at h5
        rw [h5, Int.mul_assoc]
        omega
      omega
    rw [hbit]
    have hsub : (15 : Int) - (j : Int) = ((15 - j : Nat) : Int) := by omega
    rw [hsub, sh_l (x % 2) (15 - j) (by omega) (by omega), show 15 - j = k by omega]
    have ha16 : a * 2 ^ (k + 1) < 2 ^ 62 := by
      have : a * 2 ^ (k + 1) < 2 ^ j * 2 ^ (k + 1) := Nat.mul_lt_mul_of_pos_right ha (Nat.pow_pos (by decide))
      rw [← Nat.pow_add, show j + (k + 1) = 16 by omega] at this
      exact Nat.lt_of_lt_of_le this (by decide)
    have hb16 : x % 2 * 2 ^ k < 2 ^ 62 := by
      have h1 : x % 2 * 2 ^ k ≤ 1 * 2 ^ k := Nat.mul_le_mul_right _ (by omega)
      have h2 : 2 ^ k ≤ 2 ^ 16 := Nat.pow_le_pow_right (by decide) (by omega)
      omega
    rw [bv_or ha16 hb16, or_step _ _ _ (by omega), w64_id' (by omega), show (j : Int) + 1 = ((j + 1 : Nat) : Int) by omega]
    rw [f49_0_eq n k (j + 1) (x / 2) (2 * a + x % 2) (by omega) (by rw [Nat.pow_succ]; omega) (by
      rw [Int.pow_succ, ← Int.ediv_ediv_of_nonneg (by omega), ← hx]; omega)]
    rfl
theorem f49_eq (n : Int) : f49 17 n = some (.int .i64 (revF n)) := by
  obtain ⟨x, h1, h2, h3⟩ := lowF_nat n
  unfold f49 revF
  rw [h1]
  have := f49_0_eq n 16 0 x 0 (by omega) (by simp) (by rw [h3]; simp)
  simpa using this
theorem f52_eq {a b c : List Int} {ba bb bc : Bool} {y : Sl} (h : concF (a ++ b ++ c) = some y) : f52 a ba b bb c bc = some (.im (y.l.map eI) y.c) := by
  unfold concF at h
  split at h
  · rename_i hl
    cases h
    simp only [List.length_append] at hl
    have hr : roomB = 140737488355328 := rfl
    unfold f52
    rw [w64_id' (n := 0 + (a.length : Int)) (by omega), if_neg (by omega), w64_id' (n := 0 + (a.length : Int) + b.length) (by omega), if_neg (by omega), w64_id' (n := 0 + (a.length : Int) + b.length + c.length) (by omega), if_neg (by omega), w64_id' (n := 0 + (a.length : Int) + b.length + c.length - 0) (by omega)]
    by_cases h0 : 0 < a.length + b.length + c.length
    · rw [if_pos (by omega), if_pos (by omega), if_pos (by simp only [List.length_nil]; omega)]
      have k1 : (([] : List Int).length + a.length) * 8 ≤ roomB ∧ ([] : List Int).length + a.length ≤ roomB := by rw [hr]; simp only [List.length_nil]; omega
      have k2 : (a.length + b.length) * 8 ≤ roomB ∧ a.length + b.length ≤ roomB := by rw [hr]; omega
      have k3 : ((a ++ b).length + c.length) * 8 ≤ roomB ∧ (a ++ b).length + c.length ≤ roomB := by rw [hr]; simp only [List.length_append]; omega
      rw [if_pos k1, if_pos k2, if_pos k3]
      have : (a ++ b ++ c).isEmpty = false := by
        cases hh : a ++ b ++ c with
        | nil =>
          have := congrArg List.length hh
          simp only [List.length_append, List.length_nil] at this
          omega
        | cons x l => rfl
      rw [this]
    · rw [if_neg (by omega)]
      have ea : a = [] := List.eq_nil_of_length_eq_zero (by omega)
      have eb : b = [] := List.eq_nil_of_length_eq_zero (by omega)
      have ec : c = [] := List.eq_nil_of_length_eq_zero (by omega)
      subst ea; subst eb; subst ec
      simp
  · cases h
theorem isNaNF_ok (x : Int) : Spec FF 45 [.int .i64 x] (.bool (isNaNF x)) := f45_ok x (by simp [f45, isNaNF])
theorem isNaN2F_ok (x : Int) : Spec FF 51 [.int .i64 x] (.bool (isNaN2F x)) := f51_ok x (by simp [f51, isNaN2F])
theorem belowF_ok (n most : Int) : Spec FF 37 [.int .i64 n, .int .i64 most] (.bool (belowF n most)) := f37_ok n most (by unfold f37 belowF; by_cases h : n ≥ 0 <;> simp [h])
theorem clip_ok (l : List Int) (b : Bool) : Spec FF 29 [.im (l.map eI) b] (.im (l.map eI) true) := f29_ok l b (by simp [f29])
theorem ints_ok (l m : List Int) (bl bm : Bool) (h : List.length l ≤ 1000000) : Spec FF 33 [.im (l.map eI) bl, .im (m.map eI) bm] (.bool (eqL l m)) := f33_ok l bl m bm (f33_eq l m bl bm h)
theorem sent_ok {m : Md} {p : Int} {l : List Int} {bl : Bool} {y : Md} (h : sentF m p ⟨l, bl⟩ = some y) : Spec FF 28 [m.av, .int .i64 p, .im (l.map eI) bl] y.av := f28_ok m p l bl (f28_eq h)
theorem tested_ok {m : Md} {e : Int} {y : Md × Int} (h : testedF m e = some y) : Spec FF 32 [m.av, .int .i64 e] (.tup [y.1.av, .int .i64 y.2]) := f32_ok m e (f32_eq h)
theorem right_ok (m : Md) (h : List.length m.k.l ≤ 1000000) : Spec FF 19 [m.av] (.bool (rightF m)) := f19_ok m (f19_eq m h)
theorem rev49_ok (n : Int) : Spec FF 49 [.int .i64 n] (.int .i64 (revF n)) := f49_ok n (f49_eq n)
theorem concat_ok (a b c : List Int) (ba bb bc : Bool) {y : Sl} (h : concF (a ++ b ++ c) = some y) : Spec FF 52 [.im [[.im (a.map eI) ba], [.im (b.map eI) bb], [.im (c.map eI) bc]] true] (.im (y.l.map eI) y.c) := f52_ok a ba b bb c bc (f52_eq h)
end Go.Proofs.Hz
open Go Go.Proofs
namespace Go.Proofs.Hz
def f44 (x : Int) (y : Int) : Option AV :=
  if (isNaN2F x) = true then
    if (!(isNaN2F y)) = true then
      some (.bool true)
    else
      some (.bool (decide (x < y)))
  else
    some (.bool (decide (x < y)))
def f44W : List AV := [(vt 0), (vt 1)]
def f44V (x : Int) (y : Int) (σ : Nat → Nat) : Val := (valL ([.int .i64 x, .int .i64 y]) ([]) [] σ 0)
def f44X (x : Int) (y : Int) (_σ : Nat → Nat) : List AV := [(.int .i64 x), (.int .i64 y)]
def f44Y (_x : Int) (_y : Int) (_σ : Nat → Nat) : List Blk := []
theorem f44E (x : Int) (y : Int) (σ : Nat → Nat) : f44W.map (gm (f44V x y σ)) = f44X x y σ := by kernel_rfl
theorem f44G (x : Int) (y : Int) (σ : Nat → Nat) : ([] : List Blk).map (gB (f44V x y σ)) = f44Y x y σ := by kernel_rfl
theorem f44_ok (x : Int) (y : Int) {r0 : AV} (h : f44 x y = some r0) : Spec FF 44 [(.int .i64 x), (.int .i64 y)] r0 := by
  unfold f44 at h
  have hσ : ∀ i j : Nat, (fun i : Nat => i) i = (fun i : Nat => i) j → i = j := fun _ _ e => e
  exact spec_begin (ρ := f44V x y (fun i => i)) (xs := f44W) (by kernel_rfl) rfl rfl (by kernel_rfl) (fun z0 S => have H := Tok.start hσ S 0 2 0 0 ([.int .i64 x, .int .i64 y]) ([]) [] (.n) .n (f44E x y _) (f44G x y _); have H := H.t 3 [.bool (isNaN2F x)] |>.s [(vt 0)] (vt 2) (isNaN2F_ok x); iteE h (fun h0 h => have H := H.t 5 [.bool (isNaN2F y), .bool (!(isNaN2F y))] |>.r [(.un .not (cT 3), (vt 4))] |>.m 2 true h0 |>.s [(vt 1)] (vt 3) (isNaN2F_ok y); iteE h (fun h1 h => have H := H.m 4 true h1; H.e [] h) (fun h1 h => have H := H.t 6 [.bool (decide (x < y))] |>.r [(.bin .lss (cT 0) (cT 1), (vt 5))] |>.m 4 false (bF h1); H.e [] h)) (fun h0 h => have H := H.t 4 [.bool (decide (x < y))] |>.r [(.bin .lss (cT 0) (cT 1), (vt 3))] |>.m 2 false (bF h0); H.e [] h))

def f46 (l : List Int) (_bl : Bool) (at' : Int) (gone : Int) : Option AV :=
  if 0 ≤ at' ∧ at' ≤ (List.length l : Int) then if 0 ≤ (w64 (at' + gone)) ∧ (w64 (at' + gone)) ≤ (List.length l : Int) then Option.bind (concF ((List.take (Int.toNat at') l) ++ ([] : List Int) ++ (List.drop (Int.toNat (w64 (at' + gone))) l))) fun x2 =>
  some (.im (List.map eI x2.l) x2.c) else none else none
def f46W : List AV := [(vf 0), (vt 0), (vt 1), (.im [] true)]
def f46V (l : List Int) (bl : Bool) (at' : Int) (gone : Int) (σ : Nat → Nat) : Val := (valL ([.int .i64 at', .int .i64 gone]) ([.im (List.map eI l) bl]) [] σ 0)
def f46X (l : List Int) (bl : Bool) (at' : Int) (gone : Int) (_σ : Nat → Nat) : List AV := [(.im (List.map eI l) bl), (.int .i64 at'), (.int .i64 gone), (.im [] true)]
def f46Y (_l : List Int) (_bl : Bool) (_at' : Int) (_gone : Int) (_σ : Nat → Nat) : List Blk := []
theorem f46E (l : List Int) (bl : Bool) (at' : Int) (gone : Int) (σ : Nat → Nat) : f46W.map (gm (f46V l bl at' gone σ)) = f46X l bl at' gone σ := by kernel_rfl
theorem f46G (l : List Int) (bl : Bool) (at' : Int) (gone : Int) (σ : Nat → Nat) : ([] : List Blk).map (gB (f46V l bl at' gone σ)) = f46Y l bl at' gone σ := by kernel_rfl
theorem f46_ok (l : List Int) (bl : Bool) (at' : Int) (gone : Int) {r0 : AV} (h : f46 l bl at' gone = some r0) : Spec FF 46 [(.im (List.map eI l) bl), (.int .i64 at'), (.int .i64 gone), (.im [] true)] r0 := by
  unfold f46 at h
  have hσ : ∀ i j : Nat, (fun i : Nat => i) i = (fun i : Nat => i) j → i = j := fun _ _ e => e
  exact spec_begin (ρ := f46V l bl at' gone (fun i => i)) (xs := f46W) (by kernel_rfl) rfl rfl (by kernel_rfl) (fun z0 S => have H := Tok.start hσ S 0 2 1 0 ([.int .i64 at', .int .i64 gone]) ([.im (List.map eI l) bl]) [] (.c (OkF.im eI_ok _ _) <| .n) .n (f46E l bl at' gone _) (f46G l bl at' gone _); reqE h (fun _ h => have H := H.t 3 [.int .i64 (w64 (at' + gone))] |>.f 2 [.im (List.map eI (List.take (Int.toNat at') l)) (bl && at' == (List.length l : Int))] (.c (OkF.im eI_ok _ _) <| .n) |>.r [(.bin .add (cT 0) (cT 1), (vt 2))] |>.c (p := (.slS 1 (cF 0) none (some (cT 0)) none, (vf 1))) (fun _ _ _ => fSl (sz := 1) (e := eI) (l := l) (l' := (List.take (Int.toNat at') l)) (b := bl) (b' := (bl && at' == (List.length l : Int))) (lo := none) (hi := (some ((vt 0), (at' : Int)))) (mx := none) eI_ok (by kernel_rfl) trivial ⟨.i64, by kernel_rfl⟩ trivial (by simp only [optN]; omega) (by simp) (by simp [optN]) (by simp [optN]) (by kernel_rfl)); reqE h (fun _ h => have H := H.f 3 [.im (List.map eI (List.drop (Int.toNat (w64 (at' + gone))) l)) bl] (.c (OkF.im eI_ok _ _) <| .n) |>.c (p := (.slS 1 (cF 0) (some (cT 2)) none none, (vf 2))) (fun _ _ _ => fSl (sz := 1) (e := eI) (l := l) (l' := (List.drop (Int.toNat (w64 (at' + gone))) l)) (b := bl) (b' := bl) (lo := (some ((vt 2), ((w64 (at' + gone)) : Int)))) (hi := none) (mx := none) eI_ok (by kernel_rfl) ⟨.i64, by kernel_rfl⟩ trivial trivial (by simp only [optN]; omega) (by simp) (by simp only [optN]; exact drop_full _ _) (by simp [optN]) (by kernel_rfl)); bindE h (fun x2 h2 h => have H := H.f 4 [.im (List.map eI x2.l) x2.c] (.c (OkF.im eI_ok _ _) <| .n) |>.s [(.im [[(vf 1)], [(.im [] true)], [(vf 2)]] true)] (vf 3) (concat_ok (List.take (Int.toNat at') l) ([] : List Int) (List.drop (Int.toNat (w64 (at' + gone))) l) (bl && at' == (List.length l : Int)) true bl h2); H.e [] h))))

def f46x (l : List Int) (_bl : Bool) (at' : Int) (gone : Int) (x : Int) : Option AV :=
  if 0 ≤ at' ∧ at' ≤ (List.length l : Int) then if 0 ≤ (w64 (at' + gone)) ∧ (w64 (at' + gone)) ≤ (List.length l : Int) then Option.bind (concF ((List.take (Int.toNat at') l) ++ [x] ++ (List.drop (Int.toNat (w64 (at' + gone))) l))) fun x2 =>
  some (.im (List.map eI x2.l) x2.c) else none else none
def f46xW : List AV := [(vf 0), (vt 0), (vt 1), (.im [[(vt 2)]] true)]
def f46xV (l : List Int) (bl : Bool) (at' : Int) (gone : Int) (x : Int) (σ : Nat → Nat) : Val := (valL ([.int .i64 at', .int .i64 gone, .int .i64 x]) ([.im (List.map eI l) bl]) [] σ 0)
def f46xX (l : List Int) (bl : Bool) (at' : Int) (gone : Int) (x : Int) (_σ : Nat → Nat) : List AV := [(.im (List.map eI l) bl), (.int .i64 at'), (.int .i64 gone), (.im [[(.int .i64 x)]] true)]
def f46xY (_l : List Int) (_bl : Bool) (_at' : Int) (_gone : Int) (_x : Int) (_σ : Nat → Nat) : List Blk := []
theorem f46xE (l : List Int) (bl : Bool) (at' : Int) (gone : Int) (x : Int) (σ : Nat → Nat) : f46xW.map (gm (f46xV l bl at' gone x σ)) = f46xX l bl at' gone x σ := by kernel_rfl
theorem f46xG (l : List Int) (bl : Bool) (at' : Int) (gone : Int) (x : Int) (σ : Nat → Nat) : ([] : List Blk).map (gB (f46xV l bl at' gone x σ)) = f46xY l bl at' gone x σ := by kernel_rfl
theorem f46x_ok (l : List Int) (bl : Bool) (at' : Int) (gone : Int) (x : Int) {r0 : AV} (h : f46x l bl at' gone x = some r0) : Spec FF 46 [(.im (List.map eI l) bl), (.int .i64 at'), (.int .i64 gone), (.im [[(.int .i64 x)]] true)] r0 := by
  unfold f46x at h
  have hσ : ∀ i j : Nat, (fun i : Nat => i) i = (fun i : Nat => i) j → i = j := fun _ _ e => e
  exact spec_begin (ρ := f46xV l bl at' gone x (fun i => i)) (xs := f46xW) (by kernel_rfl) rfl rfl (by kernel_rfl) (fun z0 S => have H := Tok.start hσ S 0 3 1 0 ([.int .i64 at', .int .i64 gone, .int .i64 x]) ([.im (List.map eI l) bl]) [] (.c (OkF.im eI_ok _ _) <| .n) .n (f46xE l bl at' gone x _) (f46xG l bl at' gone x _); reqE h (fun _ h => have H := H.t 4 [.int .i64 (w64 (at' + gone))] |>.f 2 [.im (List.map eI (List.take (Int.toNat at') l)) (bl && at' == (List.length l : Int))] (.c (OkF.im eI_ok _ _) <| .n) |>.r [(.bin .add (cT 0) (cT 1), (vt 3))] |>.c (p := (.slS 1 (cF 0) none (some (cT 0)) none, (vf 1))) (fun _ _ _ => fSl (sz := 1) (e := eI) (l := l) (l' := (List.take (Int.toNat at') l)) (b := bl) (b' := (bl && at' == (List.length l : Int))) (lo := none) (hi := (some ((vt 0), (at' : Int)))) (mx := none) eI_ok (by kernel_rfl) trivial ⟨.i64, by kernel_rfl⟩ trivial (by simp only [optN]; omega) (by simp) (by simp [optN]) (by simp [optN]) (by kernel_rfl)); reqE h (fun _ h => have H := H.f 3 [.im (List.map eI (List.drop (Int.toNat (w64 (at' + gone))) l)) bl] (.c (OkF.im eI_ok _ _) <| .n) |>.c (p := (.slS 1 (cF 0) (some (cT 3)) none none, (vf 2))) (fun _ _ _ => fSl (sz := 1) (e := eI) (l := l) (l' := (List.drop (Int.toNat (w64 (at' + gone))) l)) (b := bl) (b' := bl) (lo := (some ((vt 3), ((w64 (at' + gone)) : Int)))) (hi := none) (mx := none) eI_ok (by kernel_rfl) ⟨.i64, by kernel_rfl⟩ trivial trivial (by simp only [optN]; omega) (by simp) (by simp only [optN]; exact drop_full _ _) (by simp [optN]) (by kernel_rfl)); bindE h (fun x2 h2 h => have H := H.f 4 [.im (List.map eI x2.l) x2.c] (.c (OkF.im eI_ok _ _) <| .n) |>.s [(.im [[(vf 1)], [(.im [[(vt 2)]] true)], [(vf 2)]] true)] (vf 3) (concat_ok (List.take (Int.toNat at') l) [x] (List.drop (Int.toNat (w64 (at' + gone))) l) (bl && at' == (List.length l : Int)) true bl h2); H.e [] h))))

def f15 (m : Md) (n : Md) : Option AV :=
  if List.length (m.q 0).l ≤ 1000000 then if (!(eqL ((m.q 0).l) ((n.q 0).l))) = true then
    some (.bool false)
  else
    if List.length (m.q 1).l ≤ 1000000 then if (!(eqL ((m.q 1).l) ((n.q 1).l))) = true then
      some (.bool false)
    else
      if List.length (m.q 2).l ≤ 1000000 then if (!(eqL ((m.q 2).l) ((n.q 2).l))) = true then
        some (.bool false)
      else
        if List.length (m.q 3).l ≤ 1000000 then if (!(eqL ((m.q 3).l) ((n.q 3).l))) = true then
          some (.bool false)
        else
          if List.length (m.q 4).l ≤ 1000000 then if (!(eqL ((m.q 4).l) ((n.q 4).l))) = true then
            some (.bool false)
          else
            if List.length (m.q 5).l ≤ 1000000 then if (!(eqL ((m.q 5).l) ((n.q 5).l))) = true then
              some (.bool false)
            else
              if List.length (m.q 6).l ≤ 1000000 then if (!(eqL ((m.q 6).l) ((n.q 6).l))) = true then
                some (.bool false)
              else
                if List.length (m.q 7).l ≤ 1000000 then if (!(eqL ((m.q 7).l) ((n.q 7).l))) = true then
                  some (.bool false)
                else
                  if List.length m.k.l ≤ 1000000 then if List.length m.v.l ≤ 1000000 then if (eqL m.k.l n.k.l) = true then
                    if (eqL m.v.l n.v.l) = true then
                      if ((m.e 0) == (n.e 0) && ((m.e 1) == (n.e 1) && ((m.e 2) == (n.e 2) && ((m.e 3) == (n.e 3) && ((m.e 4) == (n.e 4) && ((m.e 5) == (n.e 5) && ((m.e 6) == (n.e 6) && ((m.e 7) == (n.e 7) && ((m.e 8) == (n.e 8) && ((m.e 9) == (n.e 9) && ((m.e 10) == (n.e 10) && ((m.e 11) == (n.e 11) && ((m.e 12) == (n.e 12) && ((m.e 13) == (n.e 13) && ((m.e 14) == (n.e 14) && ((m.e 15) == (n.e 15) && true)))))))))))))))) = true then
                        some (.bool ((m.s 0) == (n.s 0) && ((m.s 1) == (n.s 1) && ((m.s 2) == (n.s 2) && ((m.s 3) == (n.s 3) && ((m.s 4) == (n.s 4) && ((m.s 5) == (n.s 5) && ((m.s 6) == (n.s 6) && ((m.s 7) == (n.s 7) && ((m.s 8) == (n.s 8) && ((m.s 9) == (n.s 9) && ((m.s 10) == (n.s 10) && ((m.s 11) == (n.s 11) && ((m.s 12) == (n.s 12) && ((m.s 13) == (n.s 13) && ((m.s 14) == (n.s 14) && ((m.s 15) == (n.s 15) && true)))))))))))))))))
                      else
                        some (.bool false)
                    else
                      some (.bool false)
                  else
                    some (.bool false) else none else none else none else none else none else none else none else none else none else none
def f15W : List AV := [(.agg (vF 0 10 ++ vT 0 32)), (.agg (vF 10 10 ++ vT 32 32))]
def f15V (m : Md) (n : Md) (σ : Nat → Nat) : Val := (valL (ap (mdT m) (mdT n)) (ap (mdF m) (mdF n)) [] σ 0)
def f15X (m : Md) (n : Md) (_σ : Nat → Nat) : List AV := [(Md.av m), (Md.av n)]
def f15Y (_m : Md) (_n : Md) (_σ : Nat → Nat) : List Blk := []
theorem f15E (m : Md) (n : Md) (σ : Nat → Nat) : f15W.map (gm (f15V m n σ)) = f15X m n σ := by kernel_rfl
theorem f15G (m : Md) (n : Md) (σ : Nat → Nat) : ([] : List Blk).map (gB (f15V m n σ)) = f15Y m n σ := by kernel_rfl
theorem f15_ok (m : Md) (n : Md) {r0 : AV} (h : f15 m n = some r0) : Spec FF 15 [(Md.av m), (Md.av n)] r0 := by
  unfold f15 at h
  have hσ : ∀ i j : Nat, (fun i : Nat => i) i = (fun i : Nat => i) j → i = j := fun _ _ e => e
  exact spec_begin (ρ := f15V m n (fun i => i)) (xs := f15W) (by kernel_rfl) rfl rfl (by kernel_rfl) (fun z0 S => have H := Tok.start hσ S 0 64 20 0 (ap (mdT m) (mdT n)) (ap (mdF m) (mdF n)) [] (AllP.ap (mdF_ok m) (mdF_ok n)) .n (f15E m n _) (f15G m n _); reqE h (fun h0 h => have H := H.t 66 [.bool (eqL ((m.q 0).l) ((n.q 0).l)), .bool (!(eqL ((m.q 0).l) ((n.q 0).l)))] |>.r [(.un .not (cT 64), (vt 65))] |>.s [(vf 0), (vf 10)] (vt 64) (ints_ok ((m.q 0).l) ((n.q 0).l) ((m.q 0).c) ((n.q 0).c) h0); iteE h (fun h1 h => have H := H.m 65 true h1; H.e [] h) (fun h1 h => have H := H.m 65 false (bF h1); reqE h (fun h2 h => have H := H.t 68 [.bool (eqL ((m.q 1).l) ((n.q 1).l)), .bool (!(eqL ((m.q 1).l) ((n.q 1).l)))] |>.r [(.un .not (cT 66), (vt 67))] |>.s [(vf 1), (vf 11)] (vt 66) (ints_ok ((m.q 1).l) ((n.q 1).l) ((m.q 1).c) ((n.q 1).c) h2); iteE h (fun h3 h => have H := H.m 67 true h3; H.e [] h) (fun h3 h => have H := H.m 67 false (bF h3); reqE h (fun h4 h => have H := H.t 70 [.bool (eqL ((m.q 2).l) ((n.q 2).l)), .bool (!(eqL ((m.q 2).l) ((n.q 2).l)))] |>.r [(.un .not (cT 68), (vt 69))] |>.s [(vf 2), (vf 12)] (vt 68) (ints_ok ((m.q 2).l) ((n.q 2).l) ((m.q 2).c) ((n.q 2).c) h4); iteE h (fun h5 h => have H := H.m 69 true h5; H.e [] h) (fun h5 h => have H := H.m 69 false (bF h5); reqE h (fun h6 h => have H := H.t 72 [.bool (eqL ((m.q 3).l) ((n.q 3).l)), .bool (!(eqL ((m.q 3).l) ((n.q 3).l)))] |>.r [(.un .not (cT 70), (vt 71))] |>.s [(vf 3), (vf 13)] (vt 70) (ints_ok ((m.q 3).l) ((n.q 3).l) ((m.q 3).c) ((n.q 3).c) h6); iteE h (fun h7 h => have H := H.m 71 true h7; H.e [] h) (fun h7 h => have H := H.m 71 false (bF h7); reqE h (fun h8 h => have H := H.t 74 [.bool (eqL ((m.q 4).l) ((n.q 4).l)), .bool (!(eqL ((m.q 4).l) ((n.q 4).l)))] |>.r [(.un .not (cT 72), (vt 73))] |>.s [(vf 4), (vf 14)] (vt 72) (ints_ok ((m.q 4).l) ((n.q 4).l) ((m.q 4).c) ((n.q 4).c) h8); iteE h (fun h9 h => have H := H.m 73 true h9; H.e [] h) (fun h9 h => have H := H.m 73 false (bF h9); reqE h (fun h10 h => have H := H.t 76 [.bool (eqL ((m.q 5).l) ((n.q 5).l)), .bool (!(eqL ((m.q 5).l) ((n.q 5).l)))] |>.r [(.un .not (cT 74), (vt 75))] |>.s [(vf 5), (vf 15)] (vt 74) (ints_ok ((m.q 5).l) ((n.q 5).l) ((m.q 5).c) ((n.q 5).c) h10); iteE h (fun h11 h => have H := H.m 75 true h11; H.e [] h) (fun h11 h => have H := H.m 75 false (bF h11); reqE h (fun h12 h => have H := H.t 78 [.bool (eqL ((m.q 6).l) ((n.q 6).l)), .bool (!(eqL ((m.q 6).l) ((n.q 6).l)))] |>.r [(.un .not (cT 76), (vt 77))] |>.s [(vf 6), (vf 16)] (vt 76) (ints_ok ((m.q 6).l) ((n.q 6).l) ((m.q 6).c) ((n.q 6).c) h12); iteE h (fun h13 h => have H := H.m 77 true h13; H.e [] h) (fun h13 h => have H := H.m 77 false (bF h13); reqE h (fun h14 h => have H := H.t 80 [.bool (eqL ((m.q 7).l) ((n.q 7).l)), .bool (!(eqL ((m.q 7).l) ((n.q 7).l)))] |>.r [(.un .not (cT 78), (vt 79))] |>.s [(vf 7), (vf 17)] (vt 78) (ints_ok ((m.q 7).l) ((n.q 7).l) ((m.q 7).c) ((n.q 7).c) h14); iteE h (fun h15 h => have H := H.m 79 true h15; H.e [] h) (fun h15 h => have H := H.m 79 false (bF h15); reqE h (fun h16 h => have H := H.t 81 [.bool (eqL m.k.l n.k.l)] |>.s [(vf 8), (vf 18)] (vt 80) (ints_ok m.k.l n.k.l m.k.c n.k.c h16); reqE h (fun h17 h => have H := H.t 82 [.bool (eqL m.v.l n.v.l)] |>.s [(vf 9), (vf 19)] (vt 81) (ints_ok m.v.l n.v.l m.v.c n.v.c h17); iteE h (fun h18 h => have H := H.m 80 true h18; iteE h (fun h19 h => have H := H.t 83 [.bool ((m.e 0) == (n.e 0) && ((m.e 1) == (n.e 1) && ((m.e 2) == (n.e 2) && ((m.e 3) == (n.e 3) && ((m.e 4) == (n.e 4) && ((m.e 5) == (n.e 5) && ((m.e 6) == (n.e 6) && ((m.e 7) == (n.e 7) && ((m.e 8) == (n.e 8) && ((m.e 9) == (n.e 9) && ((m.e 10) == (n.e 10) && ((m.e 11) == (n.e 11) && ((m.e 12) == (n.e 12) && ((m.e 13) == (n.e 13) && ((m.e 14) == (n.e 14) && ((m.e 15) == (n.e 15) && true))))))))))))))))] |>.r [(.eqa false [1, 1, 1, 1, 1, 1, 1, 1, 1, 1, 1, 1, 1, 1, 1, 1] (.c (.agg (vT 0 16))) (.c (.agg (vT 32 16))), (vt 82))] |>.m 81 true h19; iteE h (fun h20 h => have H := H.t 84 [.bool ((m.s 0) == (n.s 0) && ((m.s 1) == (n.s 1) && ((m.s 2) == (n.s 2) && ((m.s 3) == (n.s 3) && ((m.s 4) == (n.s 4) && ((m.s 5) == (n.s 5) && ((m.s 6) == (n.s 6) && ((m.s 7) == (n.s 7) && ((m.s 8) == (n.s 8) && ((m.s 9) == (n.s 9) && ((m.s 10) == (n.s 10) && ((m.s 11) == (n.s 11) && ((m.s 12) == (n.s 12) && ((m.s 13) == (n.s 13) && ((m.s 14) == (n.s 14) && ((m.s 15) == (n.s 15) && true))))))))))))))))] |>.r [(.eqa false [1, 1, 1, 1, 1, 1, 1, 1, 1, 1, 1, 1, 1, 1, 1, 1] (.c (.agg (vT 16 16))) (.c (.agg (vT 48 16))), (vt 83))] |>.m 82 true h20; H.e [] h) (fun h20 h => have H := H.m 82 false (bF h20); H.e [] h)) (fun h19 h => have H := H.m 81 false (bF h19); H.e [] h)) (fun h18 h => have H := H.m 80 false (bF h18); H.e [] h))))))))))))))))))))

def f48 (n : Int) : Option AV :=
  if n < 0 then
    some (.tup [(.int .i64 0), (.bool false)])
  else
    if (shT .shr .i64 n 1) > 65535 then
      some (.tup [(.int .i64 0), (.bool false)])
    else
      if (bvT .and .i64 n 1) = 0 then
        some (.tup [(.int .i64 0), (.bool false)])
      else
        some (.tup [(.int .i64 (revF (shT .shr .i64 n 1))), (.bool true)])
def f48W : List AV := [(vt 0)]
def f48V (n : Int) (σ : Nat → Nat) : Val := (valL ([.int .i64 n]) ([]) [] σ 0)
def f48X (n : Int) (_σ : Nat → Nat) : List AV := [(.int .i64 n)]
def f48Y (_n : Int) (_σ : Nat → Nat) : List Blk := []
theorem f48E (n : Int) (σ : Nat → Nat) : f48W.map (gm (f48V n σ)) = f48X n σ := by kernel_rfl
theorem f48G (n : Int) (σ : Nat → Nat) : ([] : List Blk).map (gB (f48V n σ)) = f48Y n σ := by kernel_rfl
theorem f48_ok (n : Int) {r0 : AV} (h : f48 n = some r0) : Spec FF 48 [(.int .i64 n)] r0 := by
  unfold f48 at h
  have hσ : ∀ i j : Nat, (fun i : Nat => i) i = (fun i : Nat => i) j → i = j := fun _ _ e => e
  exact spec_begin (ρ := f48V n (fun i => i)) (xs := f48W) (by kernel_rfl) rfl rfl (by kernel_rfl) (fun z0 S => have H := Tok.start hσ S 0 1 0 0 ([.int .i64 n]) ([]) [] (.n) .n (f48E n _) (f48G n _); have H := H.t 2 [.bool (decide (n < 0))] |>.r [(.bin .lss (cT 0) (cI 0), (vt 1))]; iteE h (fun h0 h => have H := H.m 1 true (decide_eq_true h0); H.e [] h) (fun h0 h => have H := H.t 4 [.int .i64 (shT .shr .i64 n 1), .bool (decide ((shT .shr .i64 n 1) > 65535))] |>.r [(.bin .gtr (cT 2) (cI 65535), (vt 3))] |>.m 1 false (decide_eq_false h0) |>.c (p := (.bin .shr (cT 0) (.c (.int .u64 1)), (vt 2))) (fun _ _ _ => fSh (k := .i64) (k' := .u64) (a := n) (b := 1) (by simp) (by kernel_rfl) (by kernel_rfl) (by decide) (by kernel_rfl)); iteE h (fun h1 h => have H := H.m 3 true (decide_eq_true h1); H.e [] h) (fun h1 h => have H := H.t 6 [.int .i64 (bvT .and .i64 n 1), .bool (decide ((bvT .and .i64 n 1) = 0))] |>.r [(.bin .eql (cT 4) (cI 0), (vt 5))] |>.m 3 false (decide_eq_false h1) |>.c (p := (.bin .and (cT 0) (cI 1), (vt 4))) (fun _ _ _ => fBv (k := .i64) (a := n) (b := 1) (by simp) (by kernel_rfl) (by kernel_rfl) (by kernel_rfl)); iteE h (fun h2 h => have H := H.m 5 true (decide_eq_true h2); H.e [] h) (fun h2 h => have H := H.t 7 [.int .i64 (revF (shT .shr .i64 n 1))] |>.m 5 false (decide_eq_false h2) |>.s [(vt 2)] (vt 6) (rev49_ok (shT .shr .i64 n 1)); H.e [] h))))

def f11 (m : Md) : Option AV :=
  if (List.length (m.q 0).l : Int) > 40 then
    some (.bool false)
  else
    if (List.length (m.q 1).l : Int) > 40 then
      some (.bool false)
    else
      if (List.length (m.q 2).l : Int) > 40 then
        some (.bool false)
      else
        if (List.length (m.q 3).l : Int) > 40 then
          some (.bool false)
        else
          if (List.length (m.q 4).l : Int) > 40 then
            some (.bool false)
          else
            if (List.length (m.q 5).l : Int) > 40 then
              some (.bool false)
            else
              if (List.length (m.q 6).l : Int) > 40 then
                some (.bool false)
              else
                if (List.length (m.q 7).l : Int) > 40 then
                  some (.bool false)
                else
                  if (List.length m.k.l : Int) ≤ 40 then
                    if List.length (Md.k m).l ≤ 1000000 then some (.bool (rightF m)) else none
                  else
                    some (.bool false)
def f11W : List AV := [(.agg (vF 0 10 ++ vT 0 32))]
def f11V (m : Md) (σ : Nat → Nat) : Val := (valL (mdT m) (mdF m) [] σ 0)
def f11X (m : Md) (_σ : Nat → Nat) : List AV := [(Md.av m)]
def f11Y (_m : Md) (_σ : Nat → Nat) : List Blk := []
theorem f11E (m : Md) (σ : Nat → Nat) : f11W.map (gm (f11V m σ)) = f11X m σ := by kernel_rfl
theorem f11G (m : Md) (σ : Nat → Nat) : ([] : List Blk).map (gB (f11V m σ)) = f11Y m σ := by kernel_rfl
theorem f11_ok (m : Md) {r0 : AV} (h : f11 m = some r0) : Spec FF 11 [(Md.av m)] r0 := by
  unfold f11 at h
  have hσ : ∀ i j : Nat, (fun i : Nat => i) i = (fun i : Nat => i) j → i = j := fun _ _ e => e
  exact spec_begin (ρ := f11V m (fun i => i)) (xs := f11W) (by kernel_rfl) rfl rfl (by kernel_rfl) (fun z0 S => have H := Tok.start hσ S 0 32 10 0 (mdT m) (mdF m) [] (mdF_ok m) .n (f11E m _) (f11G m _); have H := H.t 34 [.int .i64 (List.length (m.q 0).l : Int), .bool (decide ((List.length (m.q 0).l : Int) > 40))] |>.r [(.bin .gtr (cT 32) (cI 40), (vt 33))] |>.c (p := (.len 0 (cF 0), (vt 32))) (fun _ _ _ => fLen (e := eI) (l := (m.q 0).l) (b := (m.q 0).c) (by kernel_rfl) (by kernel_rfl)); iteE h (fun h0 h => have H := H.m 33 true (decide_eq_true h0); H.e [] h) (fun h0 h => have H := H.t 36 [.int .i64 (List.length (m.q 1).l : Int), .bool (decide ((List.length (m.q 1).l : Int) > 40))] |>.r [(.bin .gtr (cT 34) (cI 40), (vt 35))] |>.m 33 false (decide_eq_false h0) |>.c (p := (.len 0 (cF 1), (vt 34))) (fun _ _ _ => fLen (e := eI) (l := (m.q 1).l) (b := (m.q 1).c) (by kernel_rfl) (by kernel_rfl)); iteE h (fun h1 h => have H := H.m 35 true (decide_eq_true h1); H.e [] h) (fun h1 h => have H := H.t 38 [.int .i64 (List.length (m.q 2).l : Int), .bool (decide ((List.length (m.q 2).l : Int) > 40))] |>.r [(.bin .gtr (cT 36) (cI 40), (vt 37))] |>.m 35 false (decide_eq_false h1) |>.c (p := (.len 0 (cF 2), (vt 36))) (fun _ _ _ => fLen (e := eI) (l := (m.q 2).l) (b := (m.q 2).c) (by kernel_rfl) (by kernel_rfl)); iteE h (fun h2 h => have H := H.m 37 true (decide_eq_true h2); H.e [] h) (fun h2 h => have H := H.t 40 [.int .i64 (List.length (m.q 3).l : Int), .bool (decide ((List.length (m.q 3).l : Int) > 40))] |>.r [(.bin .gtr (cT 38) (cI 40), (vt 39))] |>.m 37 false (decide_eq_false h2) |>.c (p := (.len 0 (cF 3), (vt 38))) (fun _ _ _ => fLen (e := eI) (l := (m.q 3).l) (b := (m.q 3).c) (by kernel_rfl) (by kernel_rfl)); iteE h (fun h3 h => have H := H.m 39 true (decide_eq_true h3); H.e [] h) (fun h3 h => have H := H.t 42 [.int .i64 (List.length (m.q 4).l : Int), .bool (decide ((List.length (m.q 4).l : Int) > 40))] |>.r [(.bin .gtr (cT 40) (cI 40), (vt 41))] |>.m 39 false (decide_eq_false h3) |>.c (p := (.len 0 (cF 4), (vt 40))) (fun _ _ _ => fLen (e := eI) (l := (m.q 4).l) (b := (m.q 4).c) (by kernel_rfl) (by kernel_rfl)); iteE h (fun h4 h => have H := H.m 41 true (decide_eq_true h4); H.e [] h) (fun h4 h => have H := H.t 44 [.int .i64 (List.length (m.q 5).l : Int), .bool (decide ((List.length (m.q 5).l : Int) > 40))] |>.r [(.bin .gtr (cT 42) (cI 40), (vt 43))] |>.m 41 false (decide_eq_false h4) |>.c (p := (.len 0 (cF 5), (vt 42))) (fun _ _ _ => fLen (e := eI) (l := (m.q 5).l) (b := (m.q 5).c) (by kernel_rfl) (by kernel_rfl)); iteE h (fun h5 h => have H := H.m 43 true (decide_eq_true h5); H.e [] h) (fun h5 h => have H := H.t 46 [.int .i64 (List.length (m.q 6).l : Int), .bool (decide ((List.length (m.q 6).l : Int) > 40))] |>.r [(.bin .gtr (cT 44) (cI 40), (vt 45))] |>.m 43 false (decide_eq_false h5) |>.c (p := (.len 0 (cF 6), (vt 44))) (fun _ _ _ => fLen (e := eI) (l := (m.q 6).l) (b := (m.q 6).c) (by kernel_rfl) (by kernel_rfl)); iteE h (fun h6 h => have H := H.m 45 true (decide_eq_true h6); H.e [] h) (fun h6 h => have H := H.t 48 [.int .i64 (List.length (m.q 7).l : Int), .bool (decide ((List.length (m.q 7).l : Int) > 40))] |>.r [(.bin .gtr (cT 46) (cI 40), (vt 47))] |>.m 45 false (decide_eq_false h6) |>.c (p := (.len 0 (cF 7), (vt 46))) (fun _ _ _ => fLen (e := eI) (l := (m.q 7).l) (b := (m.q 7).c) (by kernel_rfl) (by kernel_rfl)); iteE h (fun h7 h => have H := H.m 47 true (decide_eq_true h7); H.e [] h) (fun h7 h => have H := H.t 50 [.int .i64 (List.length m.k.l : Int), .bool (decide ((List.length m.k.l : Int) ≤ 40))] |>.r [(.bin .leq (cT 48) (cI 40), (vt 49))] |>.m 47 false (decide_eq_false h7) |>.c (p := (.len 0 (cF 8), (vt 48))) (fun _ _ _ => fLen (e := eI) (l := m.k.l) (b := m.k.c) (by kernel_rfl) (by kernel_rfl)); iteE h (fun h8 h => have H := H.m 49 true (decide_eq_true h8); reqE h (fun h9 h => have H := H.t 51 [.bool (rightF m)] |>.s [(.agg (vF 0 10 ++ vT 0 32))] (vt 50) (right_ok m h9); H.e [] h)) (fun h8 h => have H := H.m 49 false (decide_eq_false h8); H.e [] h))))))))))

end Go.Proofs.Hz
