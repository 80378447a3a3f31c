/-
  'hazellaw17.ModelTakes' returns true for every model and event, and its arguments read afterwards as they read before.
  Conditions: none.
-/
import Derived.Test.YtpidaficnfaedaaWf
import Derived.Test.YtpidaficnfaedaaRows
import Derived.Test.YtpidaficnfaedaaN
import Derived.Test.YtpidaficnfaedaaHzRow
open Go Go.Proofs
namespace Go.Proofs.Hz
theorem f17_eq {m : Md} {x : Ev} {y : Md × Bool} (h : takeFM m x = some y) : f17 m x = some (.tup [y.1.av, .bool y.2]) := by
  unfold takeFM at h
  have fin : ∀ {o : Option (Md × Bool)}, o = some y → (o.bind fun z => some (AV.tup [(Md.av z.1), (.bool z.2)])) = some (.tup [y.1.av, .bool y.2]) := fun h => by rw [h]; rfl
  unfold f17
  by_cases h1 : 1 ≤ x.kind ∧ x.kind ≤ 3
  · rw [if_pos h1] at h
    have : x.kind = 1 ∨ x.kind = 2 ∨ x.kind = 3 := by omega
    rcases this with e | e | e
    · rw [if_pos e]; exact fin h
    · rw [if_neg (by omega), if_pos e]; exact fin h
    · rw [if_neg (by omega), if_neg (by omega), if_pos e]; exact fin h
  rw [if_neg h1] at h
  rw [if_neg (by omega), if_neg (by omega), if_neg (by omega)]
  by_cases h2 : 4 ≤ x.kind ∧ x.kind ≤ 8
  · rw [if_pos h2] at h
    have : x.kind = 4 ∨ x.kind = 5 ∨ x.kind = 6 ∨ x.kind = 7 ∨ x.kind = 8 := by omega
    rcases this with e | e | e | e | e
    · rw [if_pos e]; exact fin h
    · rw [if_neg (by omega), if_pos e]; exact fin h
    · rw [if_neg (by omega), if_neg (by omega), if_pos e]; exact fin h
    · rw [if_neg (by omega), if_neg (by omega), if_neg (by omega), if_pos e]; exact fin h
    · rw [if_neg (by omega), if_neg (by omega), if_neg (by omega), if_neg (by omega), if_pos e]; exact fin h
  rw [if_neg h2] at h
  rw [if_neg (by omega), if_neg (by omega), if_neg (by omega), if_neg (by omega), if_neg (by omega)]
  by_cases h3 : x.kind = 9
  · rw [if_pos h3] at h ⊢; cases h; rfl
  rw [if_neg h3] at h ⊢
  by_cases h4 : x.kind < 10
  · rw [if_pos (.inl h4)] at h; cases h; rw [if_pos h4]
  by_cases h5 : x.kind > 12
  · rw [if_pos (.inr h5)] at h; cases h; rw [if_neg h4, if_pos h5]
  rw [if_neg (by omega)] at h
  rw [if_neg h4, if_neg h5]
  by_cases ha : 0 ≤ x.a ∧ x.a ≤ 15
  · have hb : belowF x.a 16 = true := by simp [belowF]; omega
    rw [if_pos ha] at h
    rw [if_neg (by simp [hb])]
    by_cases h6 : x.kind = 12
    · rw [if_pos h6] at h ⊢
      cases ht : testedF m x.a with
      | none => rw [ht] at h; cases h
      | some t =>
        rw [ht] at h
        simp only [Option.bind_some] at h ⊢
        split at h
        · rename_i e; cases h; rw [if_pos e]
        · rename_i e; cases h; rw [if_neg e]
    · rw [if_neg h6] at h ⊢
      cases h
      obtain ⟨j, hj⟩ : ∃ j : Nat, x.a = j := ⟨x.a.toNat, by omega⟩
      have hj15 : j = 0 ∨ j = 1 ∨ j = 2 ∨ j = 3 ∨ j = 4 ∨ j = 5 ∨ j = 6 ∨ j = 7 ∨ j = 8 ∨ j = 9 ∨ j = 10 ∨ j = 11 ∨ j = 12 ∨ j = 13 ∨ j = 14 ∨ j = 15 := by omega
      rw [hj]
      rcases hj15 with rfl | rfl | rfl | rfl | rfl | rfl | rfl | rfl | rfl | rfl | rfl | rfl | rfl | rfl | rfl | rfl <;> simp
  · have hb : belowF x.a 16 = false := by simp [belowF]; omega
    rw [if_neg ha] at h
    cases h
    rw [if_pos (by simp [hb])]
/-! ### Rows that rise -/
theorem take_lb {l : List Int} {x : Int} : l.take (lbF l x) = l.takeWhile fun y => decide (y < x) := by
  have h := List.takeWhile_prefix (l := l) fun y => decide (y < x)
  exact (List.prefix_iff_eq_take.1 h).symm
theorem mem_take_lb {l : List Int} {x y : Int} (h : y ∈ l.take (lbF l x)) : y < x := by
  obtain ⟨i, hi, e⟩ := List.getElem_of_mem h
  rw [List.length_take] at hi
  rw [List.getElem_take] at e
  rw [← e]
  exact lb_lt (by omega) (by omega)
theorem mem_drop_lb {l : List Int} (hs : l.Pairwise (· < ·)) {x y : Int} (h : y ∈ l.drop (lbF l x)) : x ≤ y := by
  obtain ⟨i, hi, e⟩ := List.getElem_of_mem h
  rw [List.getElem_drop] at e
  rw [← e]
  exact lb_ge hs (by simp at hi; omega) (Nat.le_add_right _ _)
/-- A row with something laid in where it belongs. -/
def insL (l : List Int) (x : Int) : List Int := l.take (lbF l x) ++ [x] ++ l.drop (lbF l x)
theorem insL_up {l : List Int} (hs : l.Pairwise (· < ·)) {x : Int} (hx : x ∉ l) : (insL l x).Pairwise (· < ·) := by
  unfold insL
  rw [List.append_assoc, List.pairwise_append]
  refine ⟨hs.sublist (List.take_sublist _ _), ?_, fun a ha b hb => ?_⟩
  · rw [List.singleton_append, List.pairwise_cons]
    refine ⟨fun y hy => ?_, hs.sublist (List.drop_sublist _ _)⟩
    have h1 := mem_drop_lb hs hy
    have h2 : x ≠ y := fun e => hx (e ▸ List.mem_of_mem_drop hy)
    omega
  · have h1 := mem_take_lb ha
    rcases List.mem_cons.1 (by simpa using hb) with rfl | hb
    · exact h1
    · have := mem_drop_lb hs hb; omega
theorem insL_lb {l : List Int} {x : Int} : lbF (insL l x) x = lbF l x := by
  unfold insL
  conv => lhs; unfold lbF
  rw [List.append_assoc, List.takeWhile_append_of_pos (fun y hy => by simpa using mem_take_lb hy)]
  simp [lbF]
  exact Nat.min_eq_left (List.takeWhile_prefix _).length_le
theorem insL_mem {l : List Int} {x : Int} : x ∈ insL l x := by simp [insL]
theorem insL_len {l : List Int} {x : Int} : (insL l x).length = l.length + 1 := by
  have := lbF_le l x
  simp [insL]; omega
/-- A row without what stands at a place. -/
def cutL {α : Type} (l : List α) (i : Nat) : List α := l.take i ++ l.drop (i + 1)
theorem cut_ins {α : Type} (l : List α) (i : Nat) (x : α) (h : i ≤ l.length) : cutL (l.take i ++ [x] ++ l.drop i) i = l := by
  unfold cutL
  have h1 : (l.take i).length = i := by simp; omega
  rw [List.append_assoc, List.take_left' h1]
  rw [show i + 1 = (l.take i ++ [x]).length by simp; omega, ← List.append_assoc, List.drop_left' rfl, List.take_append_drop]
theorem cutL_up {l : List Int} (hs : l.Pairwise (· < ·)) (i : Nat) : (cutL l i).Pairwise (· < ·) := by
  unfold cutL
  rw [List.pairwise_append]
  refine ⟨hs.sublist (List.take_sublist _ _), hs.sublist (List.drop_sublist _ _), fun a ha b hb => ?_⟩
  obtain ⟨j, hj, rfl⟩ := List.getElem_of_mem ha
  obtain ⟨k, hk, rfl⟩ := List.getElem_of_mem hb
  simp only [List.length_take, List.length_drop] at hj hk
  rw [List.getElem_take, List.getElem_drop]
  exact List.pairwise_iff_getElem.1 hs _ _ (by omega) (by omega) (by omega)
theorem cutL_not {l : List Int} (hs : l.Pairwise (· < ·)) {x : Int} : x ∉ cutL l (lbF l x) := by
  unfold cutL
  intro h
  rcases List.mem_append.1 h with h | h
  · have := mem_take_lb h; omega
  · obtain ⟨k, hk, e⟩ := List.getElem_of_mem h
    simp only [List.length_drop] at hk
    rw [List.getElem_drop] at e
    have h1 := lb_ge hs (x := x) (i := lbF l x) (by omega) (Nat.le_refl _)
    have h2 := List.pairwise_iff_getElem.1 hs (lbF l x) (lbF l x + 1 + k) (by omega) (by omega) (by omega)
    omega
theorem cutL_len {α : Type} (l : List α) (i : Nat) : (cutL l i).length ≤ l.length := by
  unfold cutL; simp; omega
theorem cutL_len' {α : Type} (l : List α) (i : Nat) (h : i < l.length) : (cutL l i).length = l.length - 1 := by
  unfold cutL; simp; omega
/-! ### Names and keys -/
theorem rv_app : ∀ (k x a : Nat), rv k x a = a * 2 ^ k + rv k x 0
  | 0, x, a => by simp [rv]
  | k + 1, x, a => by
    rw [rv, rv, rv_app k (x / 2) (2 * a + x % 2), rv_app k (x / 2) (2 * 0 + x % 2)]
    rw [Nat.pow_succ, Nat.add_mul, Nat.mul_zero, Nat.zero_add]
    have : 2 * a * 2 ^ k = a * (2 ^ k * 2) := by rw [Nat.mul_comm 2 a, Nat.mul_assoc, Nat.mul_comm 2]
    omega
theorem rv_split : ∀ (j k x : Nat), rv (j + k) x 0 = rv j x 0 * 2 ^ k + rv k (x / 2 ^ j) 0
  | 0, k, x => by simp [rv]
  | j + 1, k, x => by
    rw [show j + 1 + k = (j + k) + 1 by omega, rv, rv, rv_app (j + k), rv_app j, rv_split j k (x / 2)]
    have h1 : x / 2 / 2 ^ j = x / 2 ^ (j + 1) := by rw [Nat.div_div_eq_div_mul, Nat.pow_succ, Nat.mul_comm]
    rw [h1, Nat.pow_add, Nat.mul_zero, Nat.zero_add, Nat.add_mul, Nat.mul_assoc]
    omega
theorem rv_mod : ∀ (k x y : Nat), rv k (x + 2 ^ k * y) 0 = rv k x 0
  | 0, x, y => by simp [rv]
  | k + 1, x, y => by
    rw [rv, rv]
    have h1 : (x + 2 ^ (k + 1) * y) % 2 = x % 2 := by rw [Nat.pow_succ, Nat.mul_comm (2 ^ k) 2, Nat.mul_assoc]; omega
    have h2 : (x + 2 ^ (k + 1) * y) / 2 = x / 2 + 2 ^ k * y := by rw [Nat.pow_succ, Nat.mul_comm (2 ^ k) 2, Nat.mul_assoc]; omega
    rw [h1, h2, rv_app k (x / 2 + 2 ^ k * y), rv_app k (x / 2), rv_mod k]
theorem rv8_all : ((List.range 256).all fun x => rv 8 (rv 8 x 0) 0 == x) = true := by kernel_rfl
theorem rv8 (x : Nat) (h : x < 256) : rv 8 (rv 8 x 0) 0 = x := by
  have := List.all_eq_true.1 rv8_all x (List.mem_range.2 h)
  simpa using this
theorem rv8_lt (x : Nat) : rv 8 x 0 < 256 := rv_lt 8 x 0 0 (by simp)
theorem rv16_rv16 (x : Nat) (h : x < 65536) : rv 16 (rv 16 x 0) 0 = x := by
  have e1 : ∀ y, rv 16 y 0 = rv 8 y 0 * 256 + rv 8 (y / 256) 0 := fun y => rv_split 8 8 y
  have e2 : ∀ y, rv 8 y 0 = rv 8 (y % 256) 0 := fun y => by
    have := rv_mod 8 (y % 256) (y / 256)
    rw [show y % 256 + 2 ^ 8 * (y / 256) = y by omega] at this
    exact this
  have l1 := rv8_lt x
  have l2 := rv8_lt (x / 256)
  rw [e1 (rv 16 x 0), e1 x, e2 (rv 8 x 0 * 256 + rv 8 (x / 256) 0)]
  rw [show (rv 8 x 0 * 256 + rv 8 (x / 256) 0) % 256 = rv 8 (x / 256) 0 by omega, show (rv 8 x 0 * 256 + rv 8 (x / 256) 0) / 256 = rv 8 x 0 by omega]
  rw [rv8 (x / 256) (by omega), e2 x, rv8 (x % 256) (by omega)]
  omega
theorem revF_rev {n : Int} (h : 0 ≤ n ∧ n ≤ 65535) : revF (revF n) = n := by
  have e : ∀ {k : Int}, 0 ≤ k ∧ k ≤ 65535 → lowF k = k := fun {k} hk => by
    obtain ⟨x, h1, h2, h3⟩ := lowF_nat k
    rw [h1, h3]; omega
  obtain ⟨r, h1, h2⟩ := revF_nat n
  have h3 : revF (revF n) = (rv 16 (lowF (revF n)).toNat 0 : Nat) := rfl
  rw [h3, e (k := revF n) (by rw [h1]; omega)]
  have h4 : revF n = (rv 16 n.toNat 0 : Nat) := by unfold revF; rw [e h]
  rw [h4, Int.toNat_natCast, rv16_rv16 _ (by omega)]
  omega
theorem unord_ord {n : Int} (h : 0 ≤ n ∧ n ≤ 65535) : unordF (ordF n) = (n, true) := by
  obtain ⟨r, h1, h2⟩ := revF_nat n
  have h3 := revF_rev h
  unfold unordF ordF
  rw [h1] at h3 ⊢
  rw [if_neg (by omega), show (2 * (r : Int) + 1) / 2 = r by omega, h3]
theorem unord_even {n : Int} : unordF (ordF n - 1) = (0, false) := by
  obtain ⟨r, h1, h2⟩ := revF_nat n
  unfold unordF ordF
  rw [h1, if_pos (by omega)]
/-! ### What is taken of names -/
theorem search_eq {l : List Int} (hs : l.Pairwise (· < ·)) (hl : l.length ≤ 1000000) (x : Int) : searchF l x = some ((lbF l x : Int), decide (x ∈ l)) := by
  unfold searchF; rw [if_pos ⟨hs, hl⟩]
theorem with_ins {l : List Int} {i : Nat} {x : Int} (h : i ≤ l.length) (hl : l.length ≤ 100000) : withF l i 0 [x] = some ⟨l.take i ++ [x] ++ l.drop i, false⟩ := by
  unfold withF
  rw [if_pos ⟨by omega, by omega, by omega, by omega, by simp⟩]
  unfold concF
  rw [if_pos (by simp; omega)]
  simp
theorem with_cut {l : List Int} {i : Nat} (h : i < l.length) (hl : l.length ≤ 100000) : withF l i 1 [] = some ⟨cutL l i, (cutL l i).isEmpty⟩ := by
  unfold withF
  rw [if_pos ⟨by omega, by omega, by omega, by omega, by simp⟩]
  unfold concF
  rw [if_pos (by simp; omega)]
  have : (((i : Int) + 1)).toNat = i + 1 := by omega
  simp [cutL, this]
theorem laid_eq {m : Md} (hs : m.k.l.Pairwise (· < ·)) (hl : m.k.l.length ≤ 1000) (hv : m.v.l.length = m.k.l.length) (n v : Int) :
    laidF m n v = some (Md.setV (Md.setK m ⟨insL m.k.l n, false⟩) ⟨m.v.l.take (lbF m.k.l n) ++ [v] ++ m.v.l.drop (lbF m.k.l n), false⟩) := by
  have := lbF_le m.k.l n
  unfold laidF
  rw [search_eq hs (by omega)]
  simp only [Option.bind_some]
  rw [with_ins (by omega) (by omega), with_ins (by omega) (by omega)]
  rfl
theorem cut_eq {m : Md} {i : Nat} (hl : m.k.l.length ≤ 1000) (hv : m.v.l.length = m.k.l.length) (hi : i < m.k.l.length) :
    cutF m i = some (Md.setV (Md.setK m ⟨cutL m.k.l i, (cutL m.k.l i).isEmpty⟩) ⟨cutL m.v.l i, (cutL m.v.l i).isEmpty⟩) := by
  unfold cutF
  rw [with_cut hi (by omega), with_cut (by omega) (by omega)]
  rfl
theorem sameF_refl' {m n : Md} (hq : ∀ i, (m.q i).l = (n.q i).l) (hk : m.k.l = n.k.l) (hv : m.v.l = n.v.l) (he : ∀ i, m.e i = n.e i) (hs : ∀ i, m.s i = n.s i) : sameF m n = true := by
  simp [sameF, eqL, hq, hk, hv, he, hs]
/-! ### The law -/
theorem up_of {l : List Int} (h : upF l = true) : l.Pairwise (· < ·) ∧ ∀ x ∈ l, 0 ≤ x ∧ x ≤ 65535 := by
  rw [upF_drop] at h
  simp only [Bool.and_eq_true, List.all_eq_true, decide_eq_true_eq] at h
  exact ⟨h.2, h.1⟩
structure Small (m : Md) : Prop where
  q : ∀ i, i < 8 → (m.q i).l.length ≤ 40
  k : m.k.l.length ≤ 40
  v : m.v.l.length = m.k.l.length
  up : m.k.l.Pairwise (· < ·)
  name : ∀ x ∈ m.k.l, 0 ≤ x ∧ x ≤ 65535
theorem small_of {m : Md} (h : smallF m = true) : Small m := by
  simp only [smallF, rightF, Bool.and_eq_true, List.all_eq_true, List.mem_range, decide_eq_true_eq] at h
  obtain ⟨h1, h2, h3, h4, h5⟩ := h
  exact ⟨h1, h2, h5, (up_of h4).1, (up_of h4).2⟩
theorem okM_of {m : Md} (hq : ∀ i, i < 8 → (m.q i).l.length ≤ 1000000) (hk : m.k.l.length ≤ 1000000) (hv : m.v.l.length ≤ 1000000) : okM m = true := by
  simp only [okM, Bool.and_eq_true, List.all_eq_true, List.mem_range, decide_eq_true_eq]
  exact ⟨hq, hk, hv⟩
/-- What is taken of a name's key. -/
theorem take_name {m : Md} (hs : m.k.l.Pairwise (· < ·)) (hl : m.k.l.length ≤ 1000) {n : Int} (hn : 0 ≤ n ∧ n ≤ 65535) (kind v c b : Int) (hk : 4 ≤ kind ∧ kind ≤ 8) :
    takeFM m ⟨c, kind, ordF n, b, v⟩ =
      if kind = 5 then some (m, decide (n ∈ m.k.l))
      else if kind = 8 then some (m, decide (n ∈ m.k.l))
      else if kind = 7 then some (m, !decide (n ∈ m.k.l))
      else if decide (n ∈ m.k.l) ≠ decide (kind = 6) then some (m, false)
      else if decide (n ∈ m.k.l) then (cutF m (lbF m.k.l n : Nat)).bind fun y => some (y, true)
      else (laidF m n v).bind fun y => some (y, true) := by
  unfold takeFM
  simp only
  rw [if_neg (by omega), if_pos hk]
  unfold namedFM
  simp only
  rw [unord_ord hn, search_eq hs (by omega)]
  simp only [Option.bind_some]
  rw [if_neg (by simp)]
theorem take_ok {m : Md} {x : Ev} {y : Md × Bool} (h : takeFM m x = some y) : Spec FF 17 [m.av, x.av] (.tup [y.1.av, .bool y.2]) := f17_ok m x (f17_eq h)
end Go.Proofs.Hz
open Go Go.Proofs
namespace Go.Proofs.Hz
def f8 (m : Md) (x : Ev) : Option AV :=
  if (!(smallF m)) = true then
    some (.bool true)
  else
    Option.bind (takeFM m x) fun x1 =>
    if x.kind = 3 then
      if (!x1.2) = true then
        if okM x1.1 = true then if (!(sameF x1.1 m)) = true then
          none
        else
          if List.length (Md.k x1.1).l ≤ 1000000 then if (!(rightF x1.1)) = true then
            none
          else
            Option.bind (takeFM m (Ev.mk (w64 (x.core + 1)) x.kind x.a (w64 (x.b + 1)) x.v)) fun x8 =>
            if (x8.2 == x1.2) = true then
              some (.bool (sameF x1.1 x8.1))
            else
              none else none else none
      else
        if okM x1.1 = true then if (!(sameF x1.1 m)) = true then
          none
        else
          if List.length (Md.k x1.1).l ≤ 1000000 then if (!(rightF x1.1)) = true then
            none
          else
            Option.bind (takeFM m (Ev.mk (w64 (x.core + 1)) x.kind x.a (w64 (x.b + 1)) x.v)) fun x8 =>
            if (x8.2 == x1.2) = true then
              some (.bool (sameF x1.1 x8.1))
            else
              none else none else none
    else
      if x.kind = 5 then
        if (!x1.2) = true then
          if okM x1.1 = true then if (!(sameF x1.1 m)) = true then
            none
          else
            if List.length (Md.k x1.1).l ≤ 1000000 then if (!(rightF x1.1)) = true then
              none
            else
              Option.bind (takeFM m (Ev.mk (w64 (x.core + 1)) x.kind x.a (w64 (x.b + 1)) x.v)) fun x9 =>
              if (x9.2 == x1.2) = true then
                some (.bool (sameF x1.1 x9.1))
              else
                none else none else none
        else
          if okM x1.1 = true then if (!(sameF x1.1 m)) = true then
            none
          else
            if List.length (Md.k x1.1).l ≤ 1000000 then if (!(rightF x1.1)) = true then
              none
            else
              Option.bind (takeFM m (Ev.mk (w64 (x.core + 1)) x.kind x.a (w64 (x.b + 1)) x.v)) fun x9 =>
              if (x9.2 == x1.2) = true then
                some (.bool (sameF x1.1 x9.1))
              else
                none else none else none
      else
        if x.kind = 7 then
          if (!x1.2) = true then
            if okM x1.1 = true then if (!(sameF x1.1 m)) = true then
              none
            else
              if List.length (Md.k x1.1).l ≤ 1000000 then if (!(rightF x1.1)) = true then
                none
              else
                Option.bind (takeFM m (Ev.mk (w64 (x.core + 1)) x.kind x.a (w64 (x.b + 1)) x.v)) fun x10 =>
                if (x10.2 == x1.2) = true then
                  some (.bool (sameF x1.1 x10.1))
                else
                  none else none else none
          else
            if okM x1.1 = true then if (!(sameF x1.1 m)) = true then
              none
            else
              if List.length (Md.k x1.1).l ≤ 1000000 then if (!(rightF x1.1)) = true then
                none
              else
                Option.bind (takeFM m (Ev.mk (w64 (x.core + 1)) x.kind x.a (w64 (x.b + 1)) x.v)) fun x10 =>
                if (x10.2 == x1.2) = true then
                  some (.bool (sameF x1.1 x10.1))
                else
                  none else none else none
        else
          if x.kind = 8 then
            if (!x1.2) = true then
              if okM x1.1 = true then if (!(sameF x1.1 m)) = true then
                none
              else
                if List.length (Md.k x1.1).l ≤ 1000000 then if (!(rightF x1.1)) = true then
                  none
                else
                  Option.bind (takeFM m (Ev.mk (w64 (x.core + 1)) x.kind x.a (w64 (x.b + 1)) x.v)) fun x11 =>
                  if (x11.2 == x1.2) = true then
                    some (.bool (sameF x1.1 x11.1))
                  else
                    none else none else none
            else
              if okM x1.1 = true then if (!(sameF x1.1 m)) = true then
                none
              else
                if List.length (Md.k x1.1).l ≤ 1000000 then if (!(rightF x1.1)) = true then
                  none
                else
                  Option.bind (takeFM m (Ev.mk (w64 (x.core + 1)) x.kind x.a (w64 (x.b + 1)) x.v)) fun x11 =>
                  if (x11.2 == x1.2) = true then
                    some (.bool (sameF x1.1 x11.1))
                  else
                    none else none else none
          else
            if (!x1.2) = true then
              if okM x1.1 = true then if (!(sameF x1.1 m)) = true then
                none
              else
                if List.length (Md.k x1.1).l ≤ 1000000 then if (!(rightF x1.1)) = true then
                  none
                else
                  Option.bind (takeFM m (Ev.mk (w64 (x.core + 1)) x.kind x.a (w64 (x.b + 1)) x.v)) fun x11 =>
                  if (x11.2 == x1.2) = true then
                    some (.bool (sameF x1.1 x11.1))
                  else
                    none else none else none
            else
              if x.kind = 9 then
                if okM x1.1 = true then if (!(sameF x1.1 m)) = true then
                  none
                else
                  if List.length (Md.k x1.1).l ≤ 1000000 then if (!(rightF x1.1)) = true then
                    none
                  else
                    Option.bind (takeFM m (Ev.mk (w64 (x.core + 1)) x.kind x.a (w64 (x.b + 1)) x.v)) fun x12 =>
                    if (x12.2 == x1.2) = true then
                      some (.bool (sameF x1.1 x12.1))
                    else
                      none else none else none
              else
                if List.length (Md.k x1.1).l ≤ 1000000 then if (!(rightF x1.1)) = true then
                  none
                else
                  Option.bind (takeFM m (Ev.mk (w64 (x.core + 1)) x.kind x.a (w64 (x.b + 1)) x.v)) fun x10 =>
                  if (x10.2 == x1.2) = true then
                    if okM x1.1 = true then some (.bool (sameF x1.1 x10.1)) else none
                  else
                    none else none
def f8W : List AV := [(.agg (vF 0 10 ++ vT 0 32)), (.agg (vT 32 5))]
def f8V (m : Md) (x : Ev) (σ : Nat → Nat) : Val := (valL (ap (mdT m) ([.int .i64 x.core, .int .i64 x.kind, .int .i64 x.a, .int .i64 x.b, .int .i64 x.v])) (mdF m) [] σ 0)
def f8X (m : Md) (x : Ev) (_σ : Nat → Nat) : List AV := [(Md.av m), (.agg [(.int .i64 x.core), (.int .i64 x.kind), (.int .i64 x.a), (.int .i64 x.b), (.int .i64 x.v)])]
def f8Y (_m : Md) (_x : Ev) (_σ : Nat → Nat) : List Blk := []
theorem f8E (m : Md) (x : Ev) (σ : Nat → Nat) : f8W.map (gm (f8V m x σ)) = f8X m x σ := by kernel_rfl
theorem f8G (m : Md) (x : Ev) (σ : Nat → Nat) : ([] : List Blk).map (gB (f8V m x σ)) = f8Y m x σ := by kernel_rfl
def f8_p0V (m : Md) (x : Ev) (σ : Nat → Nat) : Val := (valL (ap (mdT m) ([.int .i64 x.core, .int .i64 x.kind, .int .i64 x.a, .int .i64 x.b, .int .i64 x.v, .bool (smallF m), .bool (!(smallF m))])) (mdF m) [] σ 0)
def f8_p0F : Facts := ⟨(List.append (α := AOp × AV) [(.un .not (cT 37), (vt 38))] [mT 38]), [], [], [(10, [], (.bool true)), (11, [(.agg (vF 0 10 ++ vT 0 32))], (vt 37))]⟩
theorem f8_p0Q : endS (fnOf FF 8) (stepK f8_p0F FF [] 4000 [] (.code (fnOf FF 8).body) (tmpl (List.range f8W.length) f8W [])) = some (.bool true) := by kernel_rfl
theorem f8_p0 (m : Md) (x : Ev) (h0 : (!(smallF m)) = true) {z0 : St} {σ : Nat → Nat} (hσ : ∀ i j, σ i = σ j → i = j) (S : Sim (f8V m x σ) (tmpl (List.range f8W.length) f8W []) z0) : J FF (fnOf FF 8) [] (.code (fnOf FF 8).body) z0 (.bool true) :=
  jR (R := gm (f8_p0V m x σ) (.bool true)) (by kernel_rfl) (J_end (show Hold FF (f8_p0V m x σ) f8_p0F from ⟨(valL_good hσ (okL (by kernel_rfl)) (mdF_ok m) (.n)),
    holdF_of (AllP.append (rflF fun _ => by kernel_rfl) (.c (fT (by kernel_rfl) h0) <| .n)),
    holdA_of (.n),
    holdN_of (.n),
    holdS_of (.c (sC shown_ok (by kernel_rfl) (by kernel_rfl)) <| .c (sC (small_ok m) (by kernel_rfl) (by kernel_rfl)) <| .n)⟩) (S.more (ρ' := (f8_p0V m x σ)) (s0 := σ) (n0 := 0) rfl rfl rfl rfl (f8E m x σ) (f8G m x σ) (by kernel_rfl) (by kernel_rfl)) f8_p0Q)
def f8_p1V (m : Md) (x : Ev) (x1 : Md × Bool) (x8 : Md × Bool) (σ : Nat → Nat) : Val := (valL (ap (mdT m) (ap ([.int .i64 x.core, .int .i64 x.kind, .int .i64 x.a, .int .i64 x.b, .int .i64 x.v, .bool (smallF m), .bool (!(smallF m))]) (ap (mdT x1.1) (ap ([.bool x1.2, .bool (decide (x.kind = 3)), .bool (!x1.2), .bool (sameF x1.1 m), .bool (!(sameF x1.1 m)), .bool (rightF x1.1), .bool (!(rightF x1.1)), .int .i64 (w64 (x.core + 1)), .int .i64 (w64 (x.b + 1))]) (ap (mdT x8.1) ([.bool x8.2, .bool (x8.2 == x1.2), .bool (sameF x1.1 x8.1)])))))) (ap (mdF m) (ap (mdF x1.1) (mdF x8.1))) [] σ 0)
def f8_p1F : Facts := ⟨(List.append (α := AOp × AV) [(.un .not (cT 37), (vt 38)), (.bin .eql (cT 33) (cI 3), (vt 72)), (.un .not (cT 71), (vt 73)), (.un .not (cT 74), (vt 75)), (.un .not (cT 76), (vt 77)), (.bin .add (cT 32) (cI 1), (vt 78)), (.bin .add (cT 35) (cI 1), (vt 79)), (.eqb false (cT 112) (cT 71), (vt 113))] [mF 38, mT 72, mT 73, mF 75, mF 77, mT 113]), [], [], [(10, [], (.bool true)), (11, [(.agg (vF 0 10 ++ vT 0 32))], (vt 37)), (17, [(.agg (vF 0 10 ++ vT 0 32)), (.agg (vT 32 5))], (.tup [(.agg (vF 10 10 ++ vT 39 32)), (vt 71)])), (15, [(.agg (vF 10 10 ++ vT 39 32)), (.agg (vF 0 10 ++ vT 0 32))], (vt 74)), (19, [(.agg (vF 10 10 ++ vT 39 32))], (vt 76)), (17, [(.agg (vF 0 10 ++ vT 0 32)), (.agg [(vt 78), (vt 33), (vt 34), (vt 79), (vt 36)])], (.tup [(.agg (vF 20 10 ++ vT 80 32)), (vt 112)])), (15, [(.agg (vF 10 10 ++ vT 39 32)), (.agg (vF 20 10 ++ vT 80 32))], (vt 114))]⟩
theorem f8_p1Q : endS (fnOf FF 8) (stepK f8_p1F FF [] 4000 [] (.code (fnOf FF 8).body) (tmpl (List.range f8W.length) f8W [])) = some (vt 114) := by kernel_rfl
theorem f8_p1 (m : Md) (x : Ev) (h0 : ¬ ((!(smallF m)) = true)) (x1 : Md × Bool) (h1 : takeFM m x = some x1) (h2 : x.kind = 3) (h3 : (!x1.2) = true) (h4 : okM x1.1 = true) (h5 : ¬ ((!(sameF x1.1 m)) = true)) (h6 : List.length (Md.k x1.1).l ≤ 1000000) (h7 : ¬ ((!(rightF x1.1)) = true)) (x8 : Md × Bool) (h8 : takeFM m (Ev.mk (w64 (x.core + 1)) x.kind x.a (w64 (x.b + 1)) x.v) = some x8) (h9 : (x8.2 == x1.2) = true) {z0 : St} {σ : Nat → Nat} (hσ : ∀ i j, σ i = σ j → i = j) (S : Sim (f8V m x σ) (tmpl (List.range f8W.length) f8W []) z0) : J FF (fnOf FF 8) [] (.code (fnOf FF 8).body) z0 (.bool (sameF x1.1 x8.1)) :=
  jR (R := gm (f8_p1V m x x1 x8 σ) (vt 114)) (by kernel_rfl) (J_end (show Hold FF (f8_p1V m x x1 x8 σ) f8_p1F from ⟨(valL_good hσ (okL (by kernel_rfl)) (AllP.ap (mdF_ok m) (AllP.ap (mdF_ok x1.1) (mdF_ok x8.1))) (.n)),
    holdF_of (AllP.append (rflF fun _ => by kernel_rfl) (.c (fT (by kernel_rfl) (bF h0)) <| .c (fT (by kernel_rfl) (decide_eq_true h2)) <| .c (fT (by kernel_rfl) h3) <| .c (fT (by kernel_rfl) (bF h5)) <| .c (fT (by kernel_rfl) (bF h7)) <| .c (fT (by kernel_rfl) h9) <| .n)),
    holdA_of (.n),
    holdN_of (.n),
    holdS_of (.c (sC shown_ok (by kernel_rfl) (by kernel_rfl)) <| .c (sC (small_ok m) (by kernel_rfl) (by kernel_rfl)) <| .c (sC (take_ok h1) (by kernel_rfl) (by kernel_rfl)) <| .c (sC (same15_ok x1.1 m h4) (by kernel_rfl) (by kernel_rfl)) <| .c (sC (right_ok x1.1 h6) (by kernel_rfl) (by kernel_rfl)) <| .c (sC (take_ok h8) (by kernel_rfl) (by kernel_rfl)) <| .c (sC (same15_ok x1.1 x8.1 h4) (by kernel_rfl) (by kernel_rfl)) <| .n)⟩) (S.more (ρ' := (f8_p1V m x x1 x8 σ)) (s0 := σ) (n0 := 0) rfl rfl rfl rfl (f8E m x σ) (f8G m x σ) (by kernel_rfl) (by kernel_rfl)) f8_p1Q)
def f8_p2V (m : Md) (x : Ev) (x1 : Md × Bool) (x8 : Md × Bool) (σ : Nat → Nat) : Val := (valL (ap (mdT m) (ap ([.int .i64 x.core, .int .i64 x.kind, .int .i64 x.a, .int .i64 x.b, .int .i64 x.v, .bool (smallF m), .bool (!(smallF m))]) (ap (mdT x1.1) (ap ([.bool x1.2, .bool (decide (x.kind = 3)), .bool (!x1.2), .bool (sameF x1.1 m), .bool (!(sameF x1.1 m)), .bool (rightF x1.1), .bool (!(rightF x1.1)), .int .i64 (w64 (x.core + 1)), .int .i64 (w64 (x.b + 1))]) (ap (mdT x8.1) ([.bool x8.2, .bool (x8.2 == x1.2), .bool (sameF x1.1 x8.1)])))))) (ap (mdF m) (ap (mdF x1.1) (mdF x8.1))) [] σ 0)
def f8_p2F : Facts := ⟨(List.append (α := AOp × AV) [(.un .not (cT 37), (vt 38)), (.bin .eql (cT 33) (cI 3), (vt 72)), (.un .not (cT 71), (vt 73)), (.un .not (cT 74), (vt 75)), (.un .not (cT 76), (vt 77)), (.bin .add (cT 32) (cI 1), (vt 78)), (.bin .add (cT 35) (cI 1), (vt 79)), (.eqb false (cT 112) (cT 71), (vt 113))] [mF 38, mT 72, mF 73, mF 75, mF 77, mT 113]), [], [], [(10, [], (.bool true)), (11, [(.agg (vF 0 10 ++ vT 0 32))], (vt 37)), (17, [(.agg (vF 0 10 ++ vT 0 32)), (.agg (vT 32 5))], (.tup [(.agg (vF 10 10 ++ vT 39 32)), (vt 71)])), (15, [(.agg (vF 10 10 ++ vT 39 32)), (.agg (vF 0 10 ++ vT 0 32))], (vt 74)), (19, [(.agg (vF 10 10 ++ vT 39 32))], (vt 76)), (17, [(.agg (vF 0 10 ++ vT 0 32)), (.agg [(vt 78), (vt 33), (vt 34), (vt 79), (vt 36)])], (.tup [(.agg (vF 20 10 ++ vT 80 32)), (vt 112)])), (15, [(.agg (vF 10 10 ++ vT 39 32)), (.agg (vF 20 10 ++ vT 80 32))], (vt 114))]⟩
theorem f8_p2Q : endS (fnOf FF 8) (stepK f8_p2F FF [] 4000 [] (.code (fnOf FF 8).body) (tmpl (List.range f8W.length) f8W [])) = some (vt 114) := by kernel_rfl
theorem f8_p2 (m : Md) (x : Ev) (h0 : ¬ ((!(smallF m)) = true)) (x1 : Md × Bool) (h1 : takeFM m x = some x1) (h2 : x.kind = 3) (h3 : ¬ ((!x1.2) = true)) (h4 : okM x1.1 = true) (h5 : ¬ ((!(sameF x1.1 m)) = true)) (h6 : List.length (Md.k x1.1).l ≤ 1000000) (h7 : ¬ ((!(rightF x1.1)) = true)) (x8 : Md × Bool) (h8 : takeFM m (Ev.mk (w64 (x.core + 1)) x.kind x.a (w64 (x.b + 1)) x.v) = some x8) (h9 : (x8.2 == x1.2) = true) {z0 : St} {σ : Nat → Nat} (hσ : ∀ i j, σ i = σ j → i = j) (S : Sim (f8V m x σ) (tmpl (List.range f8W.length) f8W []) z0) : J FF (fnOf FF 8) [] (.code (fnOf FF 8).body) z0 (.bool (sameF x1.1 x8.1)) :=
  jR (R := gm (f8_p2V m x x1 x8 σ) (vt 114)) (by kernel_rfl) (J_end (show Hold FF (f8_p2V m x x1 x8 σ) f8_p2F from ⟨(valL_good hσ (okL (by kernel_rfl)) (AllP.ap (mdF_ok m) (AllP.ap (mdF_ok x1.1) (mdF_ok x8.1))) (.n)),
    holdF_of (AllP.append (rflF fun _ => by kernel_rfl) (.c (fT (by kernel_rfl) (bF h0)) <| .c (fT (by kernel_rfl) (decide_eq_true h2)) <| .c (fT (by kernel_rfl) (bF h3)) <| .c (fT (by kernel_rfl) (bF h5)) <| .c (fT (by kernel_rfl) (bF h7)) <| .c (fT (by kernel_rfl) h9) <| .n)),
    holdA_of (.n),
    holdN_of (.n),
    holdS_of (.c (sC shown_ok (by kernel_rfl) (by kernel_rfl)) <| .c (sC (small_ok m) (by kernel_rfl) (by kernel_rfl)) <| .c (sC (take_ok h1) (by kernel_rfl) (by kernel_rfl)) <| .c (sC (same15_ok x1.1 m h4) (by kernel_rfl) (by kernel_rfl)) <| .c (sC (right_ok x1.1 h6) (by kernel_rfl) (by kernel_rfl)) <| .c (sC (take_ok h8) (by kernel_rfl) (by kernel_rfl)) <| .c (sC (same15_ok x1.1 x8.1 h4) (by kernel_rfl) (by kernel_rfl)) <| .n)⟩) (S.more (ρ' := (f8_p2V m x x1 x8 σ)) (s0 := σ) (n0 := 0) rfl rfl rfl rfl (f8E m x σ) (f8G m x σ) (by kernel_rfl) (by kernel_rfl)) f8_p2Q)
def f8_p3V (m : Md) (x : Ev) (x1 : Md × Bool) (x9 : Md × Bool) (σ : Nat → Nat) : Val := (valL (ap (mdT m) (ap ([.int .i64 x.core, .int .i64 x.kind, .int .i64 x.a, .int .i64 x.b, .int .i64 x.v, .bool (smallF m), .bool (!(smallF m))]) (ap (mdT x1.1) (ap ([.bool x1.2, .bool (decide (x.kind = 3)), .bool (decide (x.kind = 5)), .bool (!x1.2), .bool (sameF x1.1 m), .bool (!(sameF x1.1 m)), .bool (rightF x1.1), .bool (!(rightF x1.1)), .int .i64 (w64 (x.core + 1)), .int .i64 (w64 (x.b + 1))]) (ap (mdT x9.1) ([.bool x9.2, .bool (x9.2 == x1.2), .bool (sameF x1.1 x9.1)])))))) (ap (mdF m) (ap (mdF x1.1) (mdF x9.1))) [] σ 0)
def f8_p3F : Facts := ⟨(List.append (α := AOp × AV) [(.un .not (cT 37), (vt 38)), (.bin .eql (cT 33) (cI 3), (vt 72)), (.bin .eql (cT 33) (cI 5), (vt 73)), (.un .not (cT 71), (vt 74)), (.un .not (cT 75), (vt 76)), (.un .not (cT 77), (vt 78)), (.bin .add (cT 32) (cI 1), (vt 79)), (.bin .add (cT 35) (cI 1), (vt 80)), (.eqb false (cT 113) (cT 71), (vt 114))] [mF 38, mF 72, mT 73, mT 74, mF 76, mF 78, mT 114]), [], [], [(10, [], (.bool true)), (11, [(.agg (vF 0 10 ++ vT 0 32))], (vt 37)), (17, [(.agg (vF 0 10 ++ vT 0 32)), (.agg (vT 32 5))], (.tup [(.agg (vF 10 10 ++ vT 39 32)), (vt 71)])), (15, [(.agg (vF 10 10 ++ vT 39 32)), (.agg (vF 0 10 ++ vT 0 32))], (vt 75)), (19, [(.agg (vF 10 10 ++ vT 39 32))], (vt 77)), (17, [(.agg (vF 0 10 ++ vT 0 32)), (.agg [(vt 79), (vt 33), (vt 34), (vt 80), (vt 36)])], (.tup [(.agg (vF 20 10 ++ vT 81 32)), (vt 113)])), (15, [(.agg (vF 10 10 ++ vT 39 32)), (.agg (vF 20 10 ++ vT 81 32))], (vt 115))]⟩
theorem f8_p3Q : endS (fnOf FF 8) (stepK f8_p3F FF [] 4000 [] (.code (fnOf FF 8).body) (tmpl (List.range f8W.length) f8W [])) = some (vt 115) := by kernel_rfl
theorem f8_p3 (m : Md) (x : Ev) (h0 : ¬ ((!(smallF m)) = true)) (x1 : Md × Bool) (h1 : takeFM m x = some x1) (h2 : ¬ (x.kind = 3)) (h3 : x.kind = 5) (h4 : (!x1.2) = true) (h5 : okM x1.1 = true) (h6 : ¬ ((!(sameF x1.1 m)) = true)) (h7 : List.length (Md.k x1.1).l ≤ 1000000) (h8 : ¬ ((!(rightF x1.1)) = true)) (x9 : Md × Bool) (h9 : takeFM m (Ev.mk (w64 (x.core + 1)) x.kind x.a (w64 (x.b + 1)) x.v) = some x9) (h10 : (x9.2 == x1.2) = true) {z0 : St} {σ : Nat → Nat} (hσ : ∀ i j, σ i = σ j → i = j) (S : Sim (f8V m x σ) (tmpl (List.range f8W.length) f8W []) z0) : J FF (fnOf FF 8) [] (.code (fnOf FF 8).body) z0 (.bool (sameF x1.1 x9.1)) :=
  jR (R := gm (f8_p3V m x x1 x9 σ) (vt 115)) (by kernel_rfl) (J_end (show Hold FF (f8_p3V m x x1 x9 σ) f8_p3F from ⟨(valL_good hσ (okL (by kernel_rfl)) (AllP.ap (mdF_ok m) (AllP.ap (mdF_ok x1.1) (mdF_ok x9.1))) (.n)),
    holdF_of (AllP.append (rflF fun _ => by kernel_rfl) (.c (fT (by kernel_rfl) (bF h0)) <| .c (fT (by kernel_rfl) (decide_eq_false h2)) <| .c (fT (by kernel_rfl) (decide_eq_true h3)) <| .c (fT (by kernel_rfl) h4) <| .c (fT (by kernel_rfl) (bF h6)) <| .c (fT (by kernel_rfl) (bF h8)) <| .c (fT (by kernel_rfl) h10) <| .n)),
    holdA_of (.n),
    holdN_of (.n),
    holdS_of (.c (sC shown_ok (by kernel_rfl) (by kernel_rfl)) <| .c (sC (small_ok m) (by kernel_rfl) (by kernel_rfl)) <| .c (sC (take_ok h1) (by kernel_rfl) (by kernel_rfl)) <| .c (sC (same15_ok x1.1 m h5) (by kernel_rfl) (by kernel_rfl)) <| .c (sC (right_ok x1.1 h7) (by kernel_rfl) (by kernel_rfl)) <| .c (sC (take_ok h9) (by kernel_rfl) (by kernel_rfl)) <| .c (sC (same15_ok x1.1 x9.1 h5) (by kernel_rfl) (by kernel_rfl)) <| .n)⟩) (S.more (ρ' := (f8_p3V m x x1 x9 σ)) (s0 := σ) (n0 := 0) rfl rfl rfl rfl (f8E m x σ) (f8G m x σ) (by kernel_rfl) (by kernel_rfl)) f8_p3Q)
def f8_p4V (m : Md) (x : Ev) (x1 : Md × Bool) (x9 : Md × Bool) (σ : Nat → Nat) : Val := (valL (ap (mdT m) (ap ([.int .i64 x.core, .int .i64 x.kind, .int .i64 x.a, .int .i64 x.b, .int .i64 x.v, .bool (smallF m), .bool (!(smallF m))]) (ap (mdT x1.1) (ap ([.bool x1.2, .bool (decide (x.kind = 3)), .bool (decide (x.kind = 5)), .bool (!x1.2), .bool (sameF x1.1 m), .bool (!(sameF x1.1 m)), .bool (rightF x1.1), .bool (!(rightF x1.1)), .int .i64 (w64 (x.core + 1)), .int .i64 (w64 (x.b + 1))]) (ap (mdT x9.1) ([.bool x9.2, .bool (x9.2 == x1.2), .bool (sameF x1.1 x9.1)])))))) (ap (mdF m) (ap (mdF x1.1) (mdF x9.1))) [] σ 0)
def f8_p4F : Facts := ⟨(List.append (α := AOp × AV) [(.un .not (cT 37), (vt 38)), (.bin .eql (cT 33) (cI 3), (vt 72)), (.bin .eql (cT 33) (cI 5), (vt 73)), (.un .not (cT 71), (vt 74)), (.un .not (cT 75), (vt 76)), (.un .not (cT 77), (vt 78)), (.bin .add (cT 32) (cI 1), (vt 79)), (.bin .add (cT 35) (cI 1), (vt 80)), (.eqb false (cT 113) (cT 71), (vt 114))] [mF 38, mF 72, mT 73, mF 74, mF 76, mF 78, mT 114]), [], [], [(10, [], (.bool true)), (11, [(.agg (vF 0 10 ++ vT 0 32))], (vt 37)), (17, [(.agg (vF 0 10 ++ vT 0 32)), (.agg (vT 32 5))], (.tup [(.agg (vF 10 10 ++ vT 39 32)), (vt 71)])), (15, [(.agg (vF 10 10 ++ vT 39 32)), (.agg (vF 0 10 ++ vT 0 32))], (vt 75)), (19, [(.agg (vF 10 10 ++ vT 39 32))], (vt 77)), (17, [(.agg (vF 0 10 ++ vT 0 32)), (.agg [(vt 79), (vt 33), (vt 34), (vt 80), (vt 36)])], (.tup [(.agg (vF 20 10 ++ vT 81 32)), (vt 113)])), (15, [(.agg (vF 10 10 ++ vT 39 32)), (.agg (vF 20 10 ++ vT 81 32))], (vt 115))]⟩
theorem f8_p4Q : endS (fnOf FF 8) (stepK f8_p4F FF [] 4000 [] (.code (fnOf FF 8).body) (tmpl (List.range f8W.length) f8W [])) = some (vt 115) := by kernel_rfl
theorem f8_p4 (m : Md) (x : Ev) (h0 : ¬ ((!(smallF m)) = true)) (x1 : Md × Bool) (h1 : takeFM m x = some x1) (h2 : ¬ (x.kind = 3)) (h3 : x.kind = 5) (h4 : ¬ ((!x1.2) = true)) (h5 : okM x1.1 = true) (h6 : ¬ ((!(sameF x1.1 m)) = true)) (h7 : List.length (Md.k x1.1).l ≤ 1000000) (h8 : ¬ ((!(rightF x1.1)) = true)) (x9 : Md × Bool) (h9 : takeFM m (Ev.mk (w64 (x.core + 1)) x.kind x.a (w64 (x.b + 1)) x.v) = some x9) (h10 : (x9.2 == x1.2) = true) {z0 : St} {σ : Nat → Nat} (hσ : ∀ i j, σ i = σ j → i = j) (S : Sim (f8V m x σ) (tmpl (List.range f8W.length) f8W []) z0) : J FF (fnOf FF 8) [] (.code (fnOf FF 8).body) z0 (.bool (sameF x1.1 x9.1)) :=
  jR (R := gm (f8_p4V m x x1 x9 σ) (vt 115)) (by kernel_rfl) (J_end (show Hold FF (f8_p4V m x x1 x9 σ) f8_p4F from ⟨(valL_good hσ (okL (by kernel_rfl)) (AllP.ap (mdF_ok m) (AllP.ap (mdF_ok x1.1) (mdF_ok x9.1))) (.n)),
    holdF_of (AllP.append (rflF fun _ => by kernel_rfl) (.c (fT (by kernel_rfl) (bF h0)) <| .c (fT (by kernel_rfl) (decide_eq_false h2)) <| .c (fT (by kernel_rfl) (decide_eq_true h3)) <| .c (fT (by kernel_rfl) (bF h4)) <| .c (fT (by kernel_rfl) (bF h6)) <| .c (fT (by kernel_rfl) (bF h8)) <| .c (fT (by kernel_rfl) h10) <| .n)),
    holdA_of (.n),
    holdN_of (.n),
    holdS_of (.c (sC shown_ok (by kernel_rfl) (by kernel_rfl)) <| .c (sC (small_ok m) (by kernel_rfl) (by kernel_rfl)) <| .c (sC (take_ok h1) (by kernel_rfl) (by kernel_rfl)) <| .c (sC (same15_ok x1.1 m h5) (by kernel_rfl) (by kernel_rfl)) <| .c (sC (right_ok x1.1 h7) (by kernel_rfl) (by kernel_rfl)) <| .c (sC (take_ok h9) (by kernel_rfl) (by kernel_rfl)) <| .c (sC (same15_ok x1.1 x9.1 h5) (by kernel_rfl) (by kernel_rfl)) <| .n)⟩) (S.more (ρ' := (f8_p4V m x x1 x9 σ)) (s0 := σ) (n0 := 0) rfl rfl rfl rfl (f8E m x σ) (f8G m x σ) (by kernel_rfl) (by kernel_rfl)) f8_p4Q)
def f8_p5V (m : Md) (x : Ev) (x1 : Md × Bool) (x10 : Md × Bool) (σ : Nat → Nat) : Val := (valL (ap (mdT m) (ap ([.int .i64 x.core, .int .i64 x.kind, .int .i64 x.a, .int .i64 x.b, .int .i64 x.v, .bool (smallF m), .bool (!(smallF m))]) (ap (mdT x1.1) (ap ([.bool x1.2, .bool (decide (x.kind = 3)), .bool (decide (x.kind = 5)), .bool (decide (x.kind = 7)), .bool (!x1.2), .bool (sameF x1.1 m), .bool (!(sameF x1.1 m)), .bool (rightF x1.1), .bool (!(rightF x1.1)), .int .i64 (w64 (x.core + 1)), .int .i64 (w64 (x.b + 1))]) (ap (mdT x10.1) ([.bool x10.2, .bool (x10.2 == x1.2), .bool (sameF x1.1 x10.1)])))))) (ap (mdF m) (ap (mdF x1.1) (mdF x10.1))) [] σ 0)
def f8_p5F : Facts := ⟨(List.append (α := AOp × AV) [(.un .not (cT 37), (vt 38)), (.bin .eql (cT 33) (cI 3), (vt 72)), (.bin .eql (cT 33) (cI 5), (vt 73)), (.bin .eql (cT 33) (cI 7), (vt 74)), (.un .not (cT 71), (vt 75)), (.un .not (cT 76), (vt 77)), (.un .not (cT 78), (vt 79)), (.bin .add (cT 32) (cI 1), (vt 80)), (.bin .add (cT 35) (cI 1), (vt 81)), (.eqb false (cT 114) (cT 71), (vt 115))] [mF 38, mF 72, mF 73, mT 74, mT 75, mF 77, mF 79, mT 115]), [], [], [(10, [], (.bool true)), (11, [(.agg (vF 0 10 ++ vT 0 32))], (vt 37)), (17, [(.agg (vF 0 10 ++ vT 0 32)), (.agg (vT 32 5))], (.tup [(.agg (vF 10 10 ++ vT 39 32)), (vt 71)])), (15, [(.agg (vF 10 10 ++ vT 39 32)), (.agg (vF 0 10 ++ vT 0 32))], (vt 76)), (19, [(.agg (vF 10 10 ++ vT 39 32))], (vt 78)), (17, [(.agg (vF 0 10 ++ vT 0 32)), (.agg [(vt 80), (vt 33), (vt 34), (vt 81), (vt 36)])], (.tup [(.agg (vF 20 10 ++ vT 82 32)), (vt 114)])), (15, [(.agg (vF 10 10 ++ vT 39 32)), (.agg (vF 20 10 ++ vT 82 32))], (vt 116))]⟩
theorem f8_p5Q : endS (fnOf FF 8) (stepK f8_p5F FF [] 4000 [] (.code (fnOf FF 8).body) (tmpl (List.range f8W.length) f8W [])) = some (vt 116) := by kernel_rfl
theorem f8_p5 (m : Md) (x : Ev) (h0 : ¬ ((!(smallF m)) = true)) (x1 : Md × Bool) (h1 : takeFM m x = some x1) (h2 : ¬ (x.kind = 3)) (h3 : ¬ (x.kind = 5)) (h4 : x.kind = 7) (h5 : (!x1.2) = true) (h6 : okM x1.1 = true) (h7 : ¬ ((!(sameF x1.1 m)) = true)) (h8 : List.length (Md.k x1.1).l ≤ 1000000) (h9 : ¬ ((!(rightF x1.1)) = true)) (x10 : Md × Bool) (h10 : takeFM m (Ev.mk (w64 (x.core + 1)) x.kind x.a (w64 (x.b + 1)) x.v) = some x10) (h11 : (x10.2 == x1.2) = true) {z0 : St} {σ : Nat → Nat} (hσ : ∀ i j, σ i = σ j → i = j) (S : Sim (f8V m x σ) (tmpl (List.range f8W.length) f8W []) z0) : J FF (fnOf FF 8) [] (.code (fnOf FF 8).body) z0 (.bool (sameF x1.1 x10.1)) :=
  jR (R := gm (f8_p5V m x x1 x10 σ) (vt 116)) (by kernel_rfl) (J_end (show Hold FF (f8_p5V m x x1 x10 σ) f8_p5F from ⟨(valL_good hσ (okL (by kernel_rfl)) (AllP.ap (mdF_ok m) (AllP.ap (mdF_ok x1.1) (mdF_ok x10.1))) (.n)),
    holdF_of (AllP.append (rflF fun _ => by kernel_rfl) (.c (fT (by kernel_rfl) (bF h0)) <| .c (fT (by kernel_rfl) (decide_eq_false h2)) <| .c (fT (by kernel_rfl) (decide_eq_false h3)) <| .c (fT (by kernel_rfl) (decide_eq_true h4)) <| .c (fT (by kernel_rfl) h5) <| .c (fT (by kernel_rfl) (bF h7)) <| .c (fT (by kernel_rfl) (bF h9)) <| .c (fT (by kernel_rfl) h11) <| .n)),
    holdA_of (.n),
    holdN_of (.n),
    holdS_of (.c (sC shown_ok (by kernel_rfl) (by kernel_rfl)) <| .c (sC (small_ok m) (by kernel_rfl) (by kernel_rfl)) <| .c (sC (take_ok h1) (by kernel_rfl) (by kernel_rfl)) <| .c (sC (same15_ok x1.1 m h6) (by kernel_rfl) (by kernel_rfl)) <| .c (sC (right_ok x1.1 h8) (by kernel_rfl) (by kernel_rfl)) <| .c (sC (take_ok h10) (by kernel_rfl) (by kernel_rfl)) <| .c (sC (same15_ok x1.1 x10.1 h6) (by kernel_rfl) (by kernel_rfl)) <| .n)⟩) (S.more (ρ' := (f8_p5V m x x1 x10 σ)) (s0 := σ) (n0 := 0) rfl rfl rfl rfl (f8E m x σ) (f8G m x σ) (by kernel_rfl) (by kernel_rfl)) f8_p5Q)
def f8_p6V (m : Md) (x : Ev) (x1 : Md × Bool) (x10 : Md × Bool) (σ : Nat → Nat) : Val := (valL (ap (mdT m) (ap ([.int .i64 x.core, .int .i64 x.kind, .int .i64 x.a, .int .i64 x.b, .int .i64 x.v, .bool (smallF m), .bool (!(smallF m))]) (ap (mdT x1.1) (ap ([.bool x1.2, .bool (decide (x.kind = 3)), .bool (decide (x.kind = 5)), .bool (decide (x.kind = 7)), .bool (!x1.2), .bool (sameF x1.1 m), .bool (!(sameF x1.1 m)), .bool (rightF x1.1), .bool (!(rightF x1.1)), .int .i64 (w64 (x.core + 1)), .int .i64 (w64 (x.b + 1))]) (ap (mdT x10.1) ([.bool x10.2, .bool (x10.2 == x1.2), .bool (sameF x1.1 x10.1)])))))) (ap (mdF m) (ap (mdF x1.1) (mdF x10.1))) [] σ 0)
def f8_p6F : Facts := ⟨(List.append (α := AOp × AV) [(.un .not (cT 37), (vt 38)), (.bin .eql (cT 33) (cI 3), (vt 72)), (.bin .eql (cT 33) (cI 5), (vt 73)), (.bin .eql (cT 33) (cI 7), (vt 74)), (.un .not (cT 71), (vt 75)), (.un .not (cT 76), (vt 77)), (.un .not (cT 78), (vt 79)), (.bin .add (cT 32) (cI 1), (vt 80)), (.bin .add (cT 35) (cI 1), (vt 81)), (.eqb false (cT 114) (cT 71), (vt 115))] [mF 38, mF 72, mF 73, mT 74, mF 75, mF 77, mF 79, mT 115]), [], [], [(10, [], (.bool true)), (11, [(.agg (vF 0 10 ++ vT 0 32))], (vt 37)), (17, [(.agg (vF 0 10 ++ vT 0 32)), (.agg (vT 32 5))], (.tup [(.agg (vF 10 10 ++ vT 39 32)), (vt 71)])), (15, [(.agg (vF 10 10 ++ vT 39 32)), (.agg (vF 0 10 ++ vT 0 32))], (vt 76)), (19, [(.agg (vF 10 10 ++ vT 39 32))], (vt 78)), (17, [(.agg (vF 0 10 ++ vT 0 32)), (.agg [(vt 80), (vt 33), (vt 34), (vt 81), (vt 36)])], (.tup [(.agg (vF 20 10 ++ vT 82 32)), (vt 114)])), (15, [(.agg (vF 10 10 ++ vT 39 32)), (.agg (vF 20 10 ++ vT 82 32))], (vt 116))]⟩
theorem f8_p6Q : endS (fnOf FF 8) (stepK f8_p6F FF [] 4000 [] (.code (fnOf FF 8).body) (tmpl (List.range f8W.length) f8W [])) = some (vt 116) := by kernel_rfl
theorem f8_p6 (m : Md) (x : Ev) (h0 : ¬ ((!(smallF m)) = true)) (x1 : Md × Bool) (h1 : takeFM m x = some x1) (h2 : ¬ (x.kind = 3)) (h3 : ¬ (x.kind = 5)) (h4 : x.kind = 7) (h5 : ¬ ((!x1.2) = true)) (h6 : okM x1.1 = true) (h7 : ¬ ((!(sameF x1.1 m)) = true)) (h8 : List.length (Md.k x1.1).l ≤ 1000000) (h9 : ¬ ((!(rightF x1.1)) = true)) (x10 : Md × Bool) (h10 : takeFM m (Ev.mk (w64 (x.core + 1)) x.kind x.a (w64 (x.b + 1)) x.v) = some x10) (h11 : (x10.2 == x1.2) = true) {z0 : St} {σ : Nat → Nat} (hσ : ∀ i j, σ i = σ j → i = j) (S : Sim (f8V m x σ) (tmpl (List.range f8W.length) f8W []) z0) : J FF (fnOf FF 8) [] (.code (fnOf FF 8).body) z0 (.bool (sameF x1.1 x10.1)) :=
  jR (R := gm (f8_p6V m x x1 x10 σ) (vt 116)) (by kernel_rfl) (J_end (show Hold FF (f8_p6V m x x1 x10 σ) f8_p6F from ⟨(valL_good hσ (okL (by kernel_rfl)) (AllP.ap (mdF_ok m) (AllP.ap (mdF_ok x1.1) (mdF_ok x10.1))) (.n)),
    holdF_of (AllP.append (rflF fun _ => by kernel_rfl) (.c (fT (by kernel_rfl) (bF h0)) <| .c (fT (by kernel_rfl) (decide_eq_false h2)) <| .c (fT (by kernel_rfl) (decide_eq_false h3)) <| .c (fT (by kernel_rfl) (decide_eq_true h4)) <| .c (fT (by kernel_rfl) (bF h5)) <| .c (fT (by kernel_rfl) (bF h7)) <| .c (fT (by kernel_rfl) (bF h9)) <| .c (fT (by kernel_rfl) h11) <| .n)),
    holdA_of (.n),
    holdN_of (.n),
    holdS_of (.c (sC shown_ok (by kernel_rfl) (by kernel_rfl)) <| .c (sC (small_ok m) (by kernel_rfl) (by kernel_rfl)) <| .c (sC (take_ok h1) (by kernel_rfl) (by kernel_rfl)) <| .c (sC (same15_ok x1.1 m h6) (by kernel_rfl) (by kernel_rfl)) <| .c (sC (right_ok x1.1 h8) (by kernel_rfl) (by kernel_rfl)) <| .c (sC (take_ok h10) (by kernel_rfl) (by kernel_rfl)) <| .c (sC (same15_ok x1.1 x10.1 h6) (by kernel_rfl) (by kernel_rfl)) <| .n)⟩) (S.more (ρ' := (f8_p6V m x x1 x10 σ)) (s0 := σ) (n0 := 0) rfl rfl rfl rfl (f8E m x σ) (f8G m x σ) (by kernel_rfl) (by kernel_rfl)) f8_p6Q)
def f8_p7V (m : Md) (x : Ev) (x1 : Md × Bool) (x11 : Md × Bool) (σ : Nat → Nat) : Val := (valL (ap (mdT m) (ap ([.int .i64 x.core, .int .i64 x.kind, .int .i64 x.a, .int .i64 x.b, .int .i64 x.v, .bool (smallF m), .bool (!(smallF m))]) (ap (mdT x1.1) (ap ([.bool x1.2, .bool (decide (x.kind = 3)), .bool (decide (x.kind = 5)), .bool (decide (x.kind = 7)), .bool (decide (x.kind = 8)), .bool (!x1.2), .bool (sameF x1.1 m), .bool (!(sameF x1.1 m)), .bool (rightF x1.1), .bool (!(rightF x1.1)), .int .i64 (w64 (x.core + 1)), .int .i64 (w64 (x.b + 1))]) (ap (mdT x11.1) ([.bool x11.2, .bool (x11.2 == x1.2), .bool (sameF x1.1 x11.1)])))))) (ap (mdF m) (ap (mdF x1.1) (mdF x11.1))) [] σ 0)
def f8_p7F : Facts := ⟨(List.append (α := AOp × AV) [(.un .not (cT 37), (vt 38)), (.bin .eql (cT 33) (cI 3), (vt 72)), (.bin .eql (cT 33) (cI 5), (vt 73)), (.bin .eql (cT 33) (cI 7), (vt 74)), (.bin .eql (cT 33) (cI 8), (vt 75)), (.un .not (cT 71), (vt 76)), (.un .not (cT 77), (vt 78)), (.un .not (cT 79), (vt 80)), (.bin .add (cT 32) (cI 1), (vt 81)), (.bin .add (cT 35) (cI 1), (vt 82)), (.eqb false (cT 115) (cT 71), (vt 116))] [mF 38, mF 72, mF 73, mF 74, mT 75, mT 76, mF 78, mF 80, mT 116]), [], [], [(10, [], (.bool true)), (11, [(.agg (vF 0 10 ++ vT 0 32))], (vt 37)), (17, [(.agg (vF 0 10 ++ vT 0 32)), (.agg (vT 32 5))], (.tup [(.agg (vF 10 10 ++ vT 39 32)), (vt 71)])), (15, [(.agg (vF 10 10 ++ vT 39 32)), (.agg (vF 0 10 ++ vT 0 32))], (vt 77)), (19, [(.agg (vF 10 10 ++ vT 39 32))], (vt 79)), (17, [(.agg (vF 0 10 ++ vT 0 32)), (.agg [(vt 81), (vt 33), (vt 34), (vt 82), (vt 36)])], (.tup [(.agg (vF 20 10 ++ vT 83 32)), (vt 115)])), (15, [(.agg (vF 10 10 ++ vT 39 32)), (.agg (vF 20 10 ++ vT 83 32))], (vt 117))]⟩
theorem f8_p7Q : endS (fnOf FF 8) (stepK f8_p7F FF [] 4000 [] (.code (fnOf FF 8).body) (tmpl (List.range f8W.length) f8W [])) = some (vt 117) := by kernel_rfl
theorem f8_p7 (m : Md) (x : Ev) (h0 : ¬ ((!(smallF m)) = true)) (x1 : Md × Bool) (h1 : takeFM m x = some x1) (h2 : ¬ (x.kind = 3)) (h3 : ¬ (x.kind = 5)) (h4 : ¬ (x.kind = 7)) (h5 : x.kind = 8) (h6 : (!x1.2) = true) (h7 : okM x1.1 = true) (h8 : ¬ ((!(sameF x1.1 m)) = true)) (h9 : List.length (Md.k x1.1).l ≤ 1000000) (h10 : ¬ ((!(rightF x1.1)) = true)) (x11 : Md × Bool) (h11 : takeFM m (Ev.mk (w64 (x.core + 1)) x.kind x.a (w64 (x.b + 1)) x.v) = some x11) (h12 : (x11.2 == x1.2) = true) {z0 : St} {σ : Nat → Nat} (hσ : ∀ i j, σ i = σ j → i = j) (S : Sim (f8V m x σ) (tmpl (List.range f8W.length) f8W []) z0) : J FF (fnOf FF 8) [] (.code (fnOf FF 8).body) z0 (.bool (sameF x1.1 x11.1)) :=
  jR (R := gm (f8_p7V m x x1 x11 σ) (vt 117)) (by kernel_rfl) (J_end (show Hold FF (f8_p7V m x x1 x11 σ) f8_p7F from ⟨(valL_good hσ (okL (by kernel_rfl)) (AllP.ap (mdF_ok m) (AllP.ap (mdF_ok x1.1) (mdF_ok x11.1))) (.n)),
    holdF_of (AllP.append (rflF fun _ => by kernel_rfl) (.c (fT (by kernel_rfl) (bF h0)) <| .c (fT (by kernel_rfl) (decide_eq_false h2)) <| .c (fT (by kernel_rfl) (decide_eq_false h3)) <| .c (fT (by kernel_rfl) (decide_eq_false h4)) <| .c (fT (by kernel_rfl) (decide_eq_true h5)) <| .c (fT (by kernel_rfl) h6) <| .c (fT (by kernel_rfl) (bF h8)) <| .c (fT (by kernel_rfl) (bF h10)) <| .c (fT (by kernel_rfl) h12) <| .n)),
    holdA_of (.n),
    holdN_of (.n),
    holdS_of (.c (sC shown_ok (by kernel_rfl) (by kernel_rfl)) <| .c (sC (small_ok m) (by kernel_rfl) (by kernel_rfl)) <| .c (sC (take_ok h1) (by kernel_rfl) (by kernel_rfl)) <| .c (sC (same15_ok x1.1 m h7) (by kernel_rfl) (by kernel_rfl)) <| .c (sC (right_ok x1.1 h9) (by kernel_rfl) (by kernel_rfl)) <| .c (sC (take_ok h11) (by kernel_rfl) (by kernel_rfl)) <| .c (sC (same15_ok x1.1 x11.1 h7) (by kernel_rfl) (by kernel_rfl)) <| .n)⟩) (S.more (ρ' := (f8_p7V m x x1 x11 σ)) (s0 := σ) (n0 := 0) rfl rfl rfl rfl (f8E m x σ) (f8G m x σ) (by kernel_rfl) (by kernel_rfl)) f8_p7Q)
def f8_p8V (m : Md) (x : Ev) (x1 : Md × Bool) (x11 : Md × Bool) (σ : Nat → Nat) : Val := (valL (ap (mdT m) (ap ([.int .i64 x.core, .int .i64 x.kind, .int .i64 x.a, .int .i64 x.b, .int .i64 x.v, .bool (smallF m), .bool (!(smallF m))]) (ap (mdT x1.1) (ap ([.bool x1.2, .bool (decide (x.kind = 3)), .bool (decide (x.kind = 5)), .bool (decide (x.kind = 7)), .bool (decide (x.kind = 8)), .bool (!x1.2), .bool (sameF x1.1 m), .bool (!(sameF x1.1 m)), .bool (rightF x1.1), .bool (!(rightF x1.1)), .int .i64 (w64 (x.core + 1)), .int .i64 (w64 (x.b + 1))]) (ap (mdT x11.1) ([.bool x11.2, .bool (x11.2 == x1.2), .bool (sameF x1.1 x11.1)])))))) (ap (mdF m) (ap (mdF x1.1) (mdF x11.1))) [] σ 0)
def f8_p8F : Facts := ⟨(List.append (α := AOp × AV) [(.un .not (cT 37), (vt 38)), (.bin .eql (cT 33) (cI 3), (vt 72)), (.bin .eql (cT 33) (cI 5), (vt 73)), (.bin .eql (cT 33) (cI 7), (vt 74)), (.bin .eql (cT 33) (cI 8), (vt 75)), (.un .not (cT 71), (vt 76)), (.un .not (cT 77), (vt 78)), (.un .not (cT 79), (vt 80)), (.bin .add (cT 32) (cI 1), (vt 81)), (.bin .add (cT 35) (cI 1), (vt 82)), (.eqb false (cT 115) (cT 71), (vt 116))] [mF 38, mF 72, mF 73, mF 74, mT 75, mF 76, mF 78, mF 80, mT 116]), [], [], [(10, [], (.bool true)), (11, [(.agg (vF 0 10 ++ vT 0 32))], (vt 37)), (17, [(.agg (vF 0 10 ++ vT 0 32)), (.agg (vT 32 5))], (.tup [(.agg (vF 10 10 ++ vT 39 32)), (vt 71)])), (15, [(.agg (vF 10 10 ++ vT 39 32)), (.agg (vF 0 10 ++ vT 0 32))], (vt 77)), (19, [(.agg (vF 10 10 ++ vT 39 32))], (vt 79)), (17, [(.agg (vF 0 10 ++ vT 0 32)), (.agg [(vt 81), (vt 33), (vt 34), (vt 82), (vt 36)])], (.tup [(.agg (vF 20 10 ++ vT 83 32)), (vt 115)])), (15, [(.agg (vF 10 10 ++ vT 39 32)), (.agg (vF 20 10 ++ vT 83 32))], (vt 117))]⟩
theorem f8_p8Q : endS (fnOf FF 8) (stepK f8_p8F FF [] 4000 [] (.code (fnOf FF 8).body) (tmpl (List.range f8W.length) f8W [])) = some (vt 117) := by kernel_rfl
theorem f8_p8 (m : Md) (x : Ev) (h0 : ¬ ((!(smallF m)) = true)) (x1 : Md × Bool) (h1 : takeFM m x = some x1) (h2 : ¬ (x.kind = 3)) (h3 : ¬ (x.kind = 5)) (h4 : ¬ (x.kind = 7)) (h5 : x.kind = 8) (h6 : ¬ ((!x1.2) = true)) (h7 : okM x1.1 = true) (h8 : ¬ ((!(sameF x1.1 m)) = true)) (h9 : List.length (Md.k x1.1).l ≤ 1000000) (h10 : ¬ ((!(rightF x1.1)) = true)) (x11 : Md × Bool) (h11 : takeFM m (Ev.mk (w64 (x.core + 1)) x.kind x.a (w64 (x.b + 1)) x.v) = some x11) (h12 : (x11.2 == x1.2) = true) {z0 : St} {σ : Nat → Nat} (hσ : ∀ i j, σ i = σ j → i = j) (S : Sim (f8V m x σ) (tmpl (List.range f8W.length) f8W []) z0) : J FF (fnOf FF 8) [] (.code (fnOf FF 8).body) z0 (.bool (sameF x1.1 x11.1)) :=
  jR (R := gm (f8_p8V m x x1 x11 σ) (vt 117)) (by kernel_rfl) (J_end (show Hold FF (f8_p8V m x x1 x11 σ) f8_p8F from ⟨(valL_good hσ (okL (by kernel_rfl)) (AllP.ap (mdF_ok m) (AllP.ap (mdF_ok x1.1) (mdF_ok x11.1))) (.n)),
    holdF_of (AllP.append (rflF fun _ => by kernel_rfl) (.c (fT (by kernel_rfl) (bF h0)) <| .c (fT (by kernel_rfl) (decide_eq_false h2)) <| .c (fT (by kernel_rfl) (decide_eq_false h3)) <| .c (fT (by kernel_rfl) (decide_eq_false h4)) <| .c (fT (by kernel_rfl) (decide_eq_true h5)) <| .c (fT (by kernel_rfl) (bF h6)) <| .c (fT (by kernel_rfl) (bF h8)) <| .c (fT (by kernel_rfl) (bF h10)) <| .c (fT (by kernel_rfl) h12) <| .n)),
    holdA_of (.n),
    holdN_of (.n),
    holdS_of (.c (sC shown_ok (by kernel_rfl) (by kernel_rfl)) <| .c (sC (small_ok m) (by kernel_rfl) (by kernel_rfl)) <| .c (sC (take_ok h1) (by kernel_rfl) (by kernel_rfl)) <| .c (sC (same15_ok x1.1 m h7) (by kernel_rfl) (by kernel_rfl)) <| .c (sC (right_ok x1.1 h9) (by kernel_rfl) (by kernel_rfl)) <| .c (sC (take_ok h11) (by kernel_rfl) (by kernel_rfl)) <| .c (sC (same15_ok x1.1 x11.1 h7) (by kernel_rfl) (by kernel_rfl)) <| .n)⟩) (S.more (ρ' := (f8_p8V m x x1 x11 σ)) (s0 := σ) (n0 := 0) rfl rfl rfl rfl (f8E m x σ) (f8G m x σ) (by kernel_rfl) (by kernel_rfl)) f8_p8Q)
def f8_p9V (m : Md) (x : Ev) (x1 : Md × Bool) (x11 : Md × Bool) (σ : Nat → Nat) : Val := (valL (ap (mdT m) (ap ([.int .i64 x.core, .int .i64 x.kind, .int .i64 x.a, .int .i64 x.b, .int .i64 x.v, .bool (smallF m), .bool (!(smallF m))]) (ap (mdT x1.1) (ap ([.bool x1.2, .bool (decide (x.kind = 3)), .bool (decide (x.kind = 5)), .bool (decide (x.kind = 7)), .bool (decide (x.kind = 8)), .bool (decide (x.kind = 9)), .bool (!x1.2), .bool (sameF x1.1 m), .bool (!(sameF x1.1 m)), .bool (rightF x1.1), .bool (!(rightF x1.1)), .int .i64 (w64 (x.core + 1)), .int .i64 (w64 (x.b + 1))]) (ap (mdT x11.1) ([.bool x11.2, .bool (x11.2 == x1.2), .bool (sameF x1.1 x11.1)])))))) (ap (mdF m) (ap (mdF x1.1) (mdF x11.1))) [] σ 0)
def f8_p9F : Facts := ⟨(List.append (α := AOp × AV) [(.un .not (cT 37), (vt 38)), (.bin .eql (cT 33) (cI 3), (vt 72)), (.bin .eql (cT 33) (cI 5), (vt 73)), (.bin .eql (cT 33) (cI 7), (vt 74)), (.bin .eql (cT 33) (cI 8), (vt 75)), (.bin .eql (cT 33) (cI 9), (vt 76)), (.un .not (cT 71), (vt 77)), (.un .not (cT 78), (vt 79)), (.un .not (cT 80), (vt 81)), (.bin .add (cT 32) (cI 1), (vt 82)), (.bin .add (cT 35) (cI 1), (vt 83)), (.eqb false (cT 116) (cT 71), (vt 117))] [mF 38, mF 72, mF 73, mF 74, mF 75, mT 77, mF 79, mF 81, mT 117]), [], [], [(10, [], (.bool true)), (11, [(.agg (vF 0 10 ++ vT 0 32))], (vt 37)), (17, [(.agg (vF 0 10 ++ vT 0 32)), (.agg (vT 32 5))], (.tup [(.agg (vF 10 10 ++ vT 39 32)), (vt 71)])), (15, [(.agg (vF 10 10 ++ vT 39 32)), (.agg (vF 0 10 ++ vT 0 32))], (vt 78)), (19, [(.agg (vF 10 10 ++ vT 39 32))], (vt 80)), (17, [(.agg (vF 0 10 ++ vT 0 32)), (.agg [(vt 82), (vt 33), (vt 34), (vt 83), (vt 36)])], (.tup [(.agg (vF 20 10 ++ vT 84 32)), (vt 116)])), (15, [(.agg (vF 10 10 ++ vT 39 32)), (.agg (vF 20 10 ++ vT 84 32))], (vt 118))]⟩
theorem f8_p9Q : endS (fnOf FF 8) (stepK f8_p9F FF [] 4000 [] (.code (fnOf FF 8).body) (tmpl (List.range f8W.length) f8W [])) = some (vt 118) := by kernel_rfl
theorem f8_p9 (m : Md) (x : Ev) (h0 : ¬ ((!(smallF m)) = true)) (x1 : Md × Bool) (h1 : takeFM m x = some x1) (h2 : ¬ (x.kind = 3)) (h3 : ¬ (x.kind = 5)) (h4 : ¬ (x.kind = 7)) (h5 : ¬ (x.kind = 8)) (h6 : (!x1.2) = true) (h7 : okM x1.1 = true) (h8 : ¬ ((!(sameF x1.1 m)) = true)) (h9 : List.length (Md.k x1.1).l ≤ 1000000) (h10 : ¬ ((!(rightF x1.1)) = true)) (x11 : Md × Bool) (h11 : takeFM m (Ev.mk (w64 (x.core + 1)) x.kind x.a (w64 (x.b + 1)) x.v) = some x11) (h12 : (x11.2 == x1.2) = true) {z0 : St} {σ : Nat → Nat} (hσ : ∀ i j, σ i = σ j → i = j) (S : Sim (f8V m x σ) (tmpl (List.range f8W.length) f8W []) z0) : J FF (fnOf FF 8) [] (.code (fnOf FF 8).body) z0 (.bool (sameF x1.1 x11.1)) :=
  jR (R := gm (f8_p9V m x x1 x11 σ) (vt 118)) (by kernel_rfl) (J_end (show Hold FF (f8_p9V m x x1 x11 σ) f8_p9F from ⟨(valL_good hσ (okL (by kernel_rfl)) (AllP.ap (mdF_ok m) (AllP.ap (mdF_ok x1.1) (mdF_ok x11.1))) (.n)),
    holdF_of (AllP.append (rflF fun _ => by kernel_rfl) (.c (fT (by kernel_rfl) (bF h0)) <| .c (fT (by kernel_rfl) (decide_eq_false h2)) <| .c (fT (by kernel_rfl) (decide_eq_false h3)) <| .c (fT (by kernel_rfl) (decide_eq_false h4)) <| .c (fT (by kernel_rfl) (decide_eq_false h5)) <| .c (fT (by kernel_rfl) h6) <| .c (fT (by kernel_rfl) (bF h8)) <| .c (fT (by kernel_rfl) (bF h10)) <| .c (fT (by kernel_rfl) h12) <| .n)),
    holdA_of (.n),
    holdN_of (.n),
    holdS_of (.c (sC shown_ok (by kernel_rfl) (by kernel_rfl)) <| .c (sC (small_ok m) (by kernel_rfl) (by kernel_rfl)) <| .c (sC (take_ok h1) (by kernel_rfl) (by kernel_rfl)) <| .c (sC (same15_ok x1.1 m h7) (by kernel_rfl) (by kernel_rfl)) <| .c (sC (right_ok x1.1 h9) (by kernel_rfl) (by kernel_rfl)) <| .c (sC (take_ok h11) (by kernel_rfl) (by kernel_rfl)) <| .c (sC (same15_ok x1.1 x11.1 h7) (by kernel_rfl) (by kernel_rfl)) <| .n)⟩) (S.more (ρ' := (f8_p9V m x x1 x11 σ)) (s0 := σ) (n0 := 0) rfl rfl rfl rfl (f8E m x σ) (f8G m x σ) (by kernel_rfl) (by kernel_rfl)) f8_p9Q)
def f8_p10V (m : Md) (x : Ev) (x1 : Md × Bool) (x12 : Md × Bool) (σ : Nat → Nat) : Val := (valL (ap (mdT m) (ap ([.int .i64 x.core, .int .i64 x.kind, .int .i64 x.a, .int .i64 x.b, .int .i64 x.v, .bool (smallF m), .bool (!(smallF m))]) (ap (mdT x1.1) (ap ([.bool x1.2, .bool (decide (x.kind = 3)), .bool (decide (x.kind = 5)), .bool (decide (x.kind = 7)), .bool (decide (x.kind = 8)), .bool (decide (x.kind = 9)), .bool (!x1.2), .bool (sameF x1.1 m), .bool (!(sameF x1.1 m)), .bool (rightF x1.1), .bool (!(rightF x1.1)), .int .i64 (w64 (x.core + 1)), .int .i64 (w64 (x.b + 1))]) (ap (mdT x12.1) ([.bool x12.2, .bool (x12.2 == x1.2), .bool (sameF x1.1 x12.1)])))))) (ap (mdF m) (ap (mdF x1.1) (mdF x12.1))) [] σ 0)
def f8_p10F : Facts := ⟨(List.append (α := AOp × AV) [(.un .not (cT 37), (vt 38)), (.bin .eql (cT 33) (cI 3), (vt 72)), (.bin .eql (cT 33) (cI 5), (vt 73)), (.bin .eql (cT 33) (cI 7), (vt 74)), (.bin .eql (cT 33) (cI 8), (vt 75)), (.bin .eql (cT 33) (cI 9), (vt 76)), (.un .not (cT 71), (vt 77)), (.un .not (cT 78), (vt 79)), (.un .not (cT 80), (vt 81)), (.bin .add (cT 32) (cI 1), (vt 82)), (.bin .add (cT 35) (cI 1), (vt 83)), (.eqb false (cT 116) (cT 71), (vt 117))] [mF 38, mF 72, mF 73, mF 74, mF 75, mF 77, mT 76, mF 79, mF 81, mT 117]), [], [], [(10, [], (.bool true)), (11, [(.agg (vF 0 10 ++ vT 0 32))], (vt 37)), (17, [(.agg (vF 0 10 ++ vT 0 32)), (.agg (vT 32 5))], (.tup [(.agg (vF 10 10 ++ vT 39 32)), (vt 71)])), (15, [(.agg (vF 10 10 ++ vT 39 32)), (.agg (vF 0 10 ++ vT 0 32))], (vt 78)), (19, [(.agg (vF 10 10 ++ vT 39 32))], (vt 80)), (17, [(.agg (vF 0 10 ++ vT 0 32)), (.agg [(vt 82), (vt 33), (vt 34), (vt 83), (vt 36)])], (.tup [(.agg (vF 20 10 ++ vT 84 32)), (vt 116)])), (15, [(.agg (vF 10 10 ++ vT 39 32)), (.agg (vF 20 10 ++ vT 84 32))], (vt 118))]⟩
theorem f8_p10Q : endS (fnOf FF 8) (stepK f8_p10F FF [] 4000 [] (.code (fnOf FF 8).body) (tmpl (List.range f8W.length) f8W [])) = some (vt 118) := by kernel_rfl
theorem f8_p10 (m : Md) (x : Ev) (h0 : ¬ ((!(smallF m)) = true)) (x1 : Md × Bool) (h1 : takeFM m x = some x1) (h2 : ¬ (x.kind = 3)) (h3 : ¬ (x.kind = 5)) (h4 : ¬ (x.kind = 7)) (h5 : ¬ (x.kind = 8)) (h6 : ¬ ((!x1.2) = true)) (h7 : x.kind = 9) (h8 : okM x1.1 = true) (h9 : ¬ ((!(sameF x1.1 m)) = true)) (h10 : List.length (Md.k x1.1).l ≤ 1000000) (h11 : ¬ ((!(rightF x1.1)) = true)) (x12 : Md × Bool) (h12 : takeFM m (Ev.mk (w64 (x.core + 1)) x.kind x.a (w64 (x.b + 1)) x.v) = some x12) (h13 : (x12.2 == x1.2) = true) {z0 : St} {σ : Nat → Nat} (hσ : ∀ i j, σ i = σ j → i = j) (S : Sim (f8V m x σ) (tmpl (List.range f8W.length) f8W []) z0) : J FF (fnOf FF 8) [] (.code (fnOf FF 8).body) z0 (.bool (sameF x1.1 x12.1)) :=
  jR (R := gm (f8_p10V m x x1 x12 σ) (vt 118)) (by kernel_rfl) (J_end (show Hold FF (f8_p10V m x x1 x12 σ) f8_p10F from ⟨(valL_good hσ (okL (by kernel_rfl)) (AllP.ap (mdF_ok m) (AllP.ap (mdF_ok x1.1) (mdF_ok x12.1))) (.n)),
    holdF_of (AllP.append (rflF fun _ => by kernel_rfl) (.c (fT (by kernel_rfl) (bF h0)) <| .c (fT (by kernel_rfl) (decide_eq_false h2)) <| .c (fT (by kernel_rfl) (decide_eq_false h3)) <| .c (fT (by kernel_rfl) (decide_eq_false h4)) <| .c (fT (by kernel_rfl) (decide_eq_false h5)) <| .c (fT (by kernel_rfl) (bF h6)) <| .c (fT (by kernel_rfl) (decide_eq_true h7)) <| .c (fT (by kernel_rfl) (bF h9)) <| .c (fT (by kernel_rfl) (bF h11)) <| .c (fT (by kernel_rfl) h13) <| .n)),
    holdA_of (.n),
    holdN_of (.n),
    holdS_of (.c (sC shown_ok (by kernel_rfl) (by kernel_rfl)) <| .c (sC (small_ok m) (by kernel_rfl) (by kernel_rfl)) <| .c (sC (take_ok h1) (by kernel_rfl) (by kernel_rfl)) <| .c (sC (same15_ok x1.1 m h8) (by kernel_rfl) (by kernel_rfl)) <| .c (sC (right_ok x1.1 h10) (by kernel_rfl) (by kernel_rfl)) <| .c (sC (take_ok h12) (by kernel_rfl) (by kernel_rfl)) <| .c (sC (same15_ok x1.1 x12.1 h8) (by kernel_rfl) (by kernel_rfl)) <| .n)⟩) (S.more (ρ' := (f8_p10V m x x1 x12 σ)) (s0 := σ) (n0 := 0) rfl rfl rfl rfl (f8E m x σ) (f8G m x σ) (by kernel_rfl) (by kernel_rfl)) f8_p10Q)
def f8_p11V (m : Md) (x : Ev) (x1 : Md × Bool) (x10 : Md × Bool) (σ : Nat → Nat) : Val := (valL (ap (mdT m) (ap ([.int .i64 x.core, .int .i64 x.kind, .int .i64 x.a, .int .i64 x.b, .int .i64 x.v, .bool (smallF m), .bool (!(smallF m))]) (ap (mdT x1.1) (ap ([.bool x1.2, .bool (decide (x.kind = 3)), .bool (decide (x.kind = 5)), .bool (decide (x.kind = 7)), .bool (decide (x.kind = 8)), .bool (decide (x.kind = 9)), .bool (!x1.2), .bool (rightF x1.1), .bool (!(rightF x1.1)), .int .i64 (w64 (x.core + 1)), .int .i64 (w64 (x.b + 1))]) (ap (mdT x10.1) ([.bool x10.2, .bool (x10.2 == x1.2), .bool (sameF x1.1 x10.1)])))))) (ap (mdF m) (ap (mdF x1.1) (mdF x10.1))) [] σ 0)
def f8_p11F : Facts := ⟨(List.append (α := AOp × AV) [(.un .not (cT 37), (vt 38)), (.bin .eql (cT 33) (cI 3), (vt 72)), (.bin .eql (cT 33) (cI 5), (vt 73)), (.bin .eql (cT 33) (cI 7), (vt 74)), (.bin .eql (cT 33) (cI 8), (vt 75)), (.bin .eql (cT 33) (cI 9), (vt 76)), (.un .not (cT 71), (vt 77)), (.un .not (cT 78), (vt 79)), (.bin .add (cT 32) (cI 1), (vt 80)), (.bin .add (cT 35) (cI 1), (vt 81)), (.eqb false (cT 114) (cT 71), (vt 115))] [mF 38, mF 72, mF 73, mF 74, mF 75, mF 77, mF 76, mF 79, mT 115]), [], [], [(10, [], (.bool true)), (11, [(.agg (vF 0 10 ++ vT 0 32))], (vt 37)), (17, [(.agg (vF 0 10 ++ vT 0 32)), (.agg (vT 32 5))], (.tup [(.agg (vF 10 10 ++ vT 39 32)), (vt 71)])), (19, [(.agg (vF 10 10 ++ vT 39 32))], (vt 78)), (17, [(.agg (vF 0 10 ++ vT 0 32)), (.agg [(vt 80), (vt 33), (vt 34), (vt 81), (vt 36)])], (.tup [(.agg (vF 20 10 ++ vT 82 32)), (vt 114)])), (15, [(.agg (vF 10 10 ++ vT 39 32)), (.agg (vF 20 10 ++ vT 82 32))], (vt 116))]⟩
theorem f8_p11Q : endS (fnOf FF 8) (stepK f8_p11F FF [] 4000 [] (.code (fnOf FF 8).body) (tmpl (List.range f8W.length) f8W [])) = some (vt 116) := by kernel_rfl
theorem f8_p11 (m : Md) (x : Ev) (h0 : ¬ ((!(smallF m)) = true)) (x1 : Md × Bool) (h1 : takeFM m x = some x1) (h2 : ¬ (x.kind = 3)) (h3 : ¬ (x.kind = 5)) (h4 : ¬ (x.kind = 7)) (h5 : ¬ (x.kind = 8)) (h6 : ¬ ((!x1.2) = true)) (h7 : ¬ (x.kind = 9)) (h8 : List.length (Md.k x1.1).l ≤ 1000000) (h9 : ¬ ((!(rightF x1.1)) = true)) (x10 : Md × Bool) (h10 : takeFM m (Ev.mk (w64 (x.core + 1)) x.kind x.a (w64 (x.b + 1)) x.v) = some x10) (h11 : (x10.2 == x1.2) = true) (h12 : okM x1.1 = true) {z0 : St} {σ : Nat → Nat} (hσ : ∀ i j, σ i = σ j → i = j) (S : Sim (f8V m x σ) (tmpl (List.range f8W.length) f8W []) z0) : J FF (fnOf FF 8) [] (.code (fnOf FF 8).body) z0 (.bool (sameF x1.1 x10.1)) :=
  jR (R := gm (f8_p11V m x x1 x10 σ) (vt 116)) (by kernel_rfl) (J_end (show Hold FF (f8_p11V m x x1 x10 σ) f8_p11F from ⟨(valL_good hσ (okL (by kernel_rfl)) (AllP.ap (mdF_ok m) (AllP.ap (mdF_ok x1.1) (mdF_ok x10.1))) (.n)),
    holdF_of (AllP.append (rflF fun _ => by kernel_rfl) (.c (fT (by kernel_rfl) (bF h0)) <| .c (fT (by kernel_rfl) (decide_eq_false h2)) <| .c (fT (by kernel_rfl) (decide_eq_false h3)) <| .c (fT (by kernel_rfl) (decide_eq_false h4)) <| .c (fT (by kernel_rfl) (decide_eq_false h5)) <| .c (fT (by kernel_rfl) (bF h6)) <| .c (fT (by kernel_rfl) (decide_eq_false h7)) <| .c (fT (by kernel_rfl) (bF h9)) <| .c (fT (by kernel_rfl) h11) <| .n)),
    holdA_of (.n),
    holdN_of (.n),
    holdS_of (.c (sC shown_ok (by kernel_rfl) (by kernel_rfl)) <| .c (sC (small_ok m) (by kernel_rfl) (by kernel_rfl)) <| .c (sC (take_ok h1) (by kernel_rfl) (by kernel_rfl)) <| .c (sC (right_ok x1.1 h8) (by kernel_rfl) (by kernel_rfl)) <| .c (sC (take_ok h10) (by kernel_rfl) (by kernel_rfl)) <| .c (sC (same15_ok x1.1 x10.1 h12) (by kernel_rfl) (by kernel_rfl)) <| .n)⟩) (S.more (ρ' := (f8_p11V m x x1 x10 σ)) (s0 := σ) (n0 := 0) rfl rfl rfl rfl (f8E m x σ) (f8G m x σ) (by kernel_rfl) (by kernel_rfl)) f8_p11Q)
theorem f8_ok (m : Md) (x : Ev) {r0 : AV} (h : f8 m x = some r0) : Spec FF 8 [(Md.av m), (.agg [(.int .i64 x.core), (.int .i64 x.kind), (.int .i64 x.a), (.int .i64 x.b), (.int .i64 x.v)])] r0 := by
  unfold f8 at h
  have hσ : ∀ i j : Nat, (fun i : Nat => i) i = (fun i : Nat => i) j → i = j := fun _ _ e => e
  exact spec_begin (ρ := f8V m x (fun i => i)) (xs := f8W) (by kernel_rfl) rfl rfl (by kernel_rfl) (fun z0 S => iteE h (fun h0 h => jE h (f8_p0 m x h0 hσ S)) (fun h0 h => bindE h (fun x1 h1 h => iteE h (fun h2 h => iteE h (fun h3 h => reqE h (fun h4 h => iteE h (fun _ h => nomatch h) (fun h5 h => reqE h (fun h6 h => iteE h (fun _ h => nomatch h) (fun h7 h => bindE h (fun x8 h8 h => iteE h (fun h9 h => jE h (f8_p1 m x h0 x1 h1 h2 h3 h4 h5 h6 h7 x8 h8 h9 hσ S)) (fun _ h => nomatch h))))))) (fun h3 h => reqE h (fun h4 h => iteE h (fun _ h => nomatch h) (fun h5 h => reqE h (fun h6 h => iteE h (fun _ h => nomatch h) (fun h7 h => bindE h (fun x8 h8 h => iteE h (fun h9 h => jE h (f8_p2 m x h0 x1 h1 h2 h3 h4 h5 h6 h7 x8 h8 h9 hσ S)) (fun _ h => nomatch h)))))))) (fun h2 h => iteE h (fun h3 h => iteE h (fun h4 h => reqE h (fun h5 h => iteE h (fun _ h => nomatch h) (fun h6 h => reqE h (fun h7 h => iteE h (fun _ h => nomatch h) (fun h8 h => bindE h (fun x9 h9 h => iteE h (fun h10 h => jE h (f8_p3 m x h0 x1 h1 h2 h3 h4 h5 h6 h7 h8 x9 h9 h10 hσ S)) (fun _ h => nomatch h))))))) (fun h4 h => reqE h (fun h5 h => iteE h (fun _ h => nomatch h) (fun h6 h => reqE h (fun h7 h => iteE h (fun _ h => nomatch h) (fun h8 h => bindE h (fun x9 h9 h => iteE h (fun h10 h => jE h (f8_p4 m x h0 x1 h1 h2 h3 h4 h5 h6 h7 h8 x9 h9 h10 hσ S)) (fun _ h => nomatch h)))))))) (fun h3 h => iteE h (fun h4 h => iteE h (fun h5 h => reqE h (fun h6 h => iteE h (fun _ h => nomatch h) (fun h7 h => reqE h (fun h8 h => iteE h (fun _ h => nomatch h) (fun h9 h => bindE h (fun x10 h10 h => iteE h (fun h11 h => jE h (f8_p5 m x h0 x1 h1 h2 h3 h4 h5 h6 h7 h8 h9 x10 h10 h11 hσ S)) (fun _ h => nomatch h))))))) (fun h5 h => reqE h (fun h6 h => iteE h (fun _ h => nomatch h) (fun h7 h => reqE h (fun h8 h => iteE h (fun _ h => nomatch h) (fun h9 h => bindE h (fun x10 h10 h => iteE h (fun h11 h => jE h (f8_p6 m x h0 x1 h1 h2 h3 h4 h5 h6 h7 h8 h9 x10 h10 h11 hσ S)) (fun _ h => nomatch h)))))))) (fun h4 h => iteE h (fun h5 h => iteE h (fun h6 h => reqE h (fun h7 h => iteE h (fun _ h => nomatch h) (fun h8 h => reqE h (fun h9 h => iteE h (fun _ h => nomatch h) (fun h10 h => bindE h (fun x11 h11 h => iteE h (fun h12 h => jE h (f8_p7 m x h0 x1 h1 h2 h3 h4 h5 h6 h7 h8 h9 h10 x11 h11 h12 hσ S)) (fun _ h => nomatch h))))))) (fun h6 h => reqE h (fun h7 h => iteE h (fun _ h => nomatch h) (fun h8 h => reqE h (fun h9 h => iteE h (fun _ h => nomatch h) (fun h10 h => bindE h (fun x11 h11 h => iteE h (fun h12 h => jE h (f8_p8 m x h0 x1 h1 h2 h3 h4 h5 h6 h7 h8 h9 h10 x11 h11 h12 hσ S)) (fun _ h => nomatch h)))))))) (fun h5 h => iteE h (fun h6 h => reqE h (fun h7 h => iteE h (fun _ h => nomatch h) (fun h8 h => reqE h (fun h9 h => iteE h (fun _ h => nomatch h) (fun h10 h => bindE h (fun x11 h11 h => iteE h (fun h12 h => jE h (f8_p9 m x h0 x1 h1 h2 h3 h4 h5 h6 h7 h8 h9 h10 x11 h11 h12 hσ S)) (fun _ h => nomatch h))))))) (fun h6 h => iteE h (fun h7 h => reqE h (fun h8 h => iteE h (fun _ h => nomatch h) (fun h9 h => reqE h (fun h10 h => iteE h (fun _ h => nomatch h) (fun h11 h => bindE h (fun x12 h12 h => iteE h (fun h13 h => jE h (f8_p10 m x h0 x1 h1 h2 h3 h4 h5 h6 h7 h8 h9 h10 h11 x12 h12 h13 hσ S)) (fun _ h => nomatch h))))))) (fun h7 h => reqE h (fun h8 h => iteE h (fun _ h => nomatch h) (fun h9 h => bindE h (fun x10 h10 h => iteE h (fun h11 h => reqE h (fun h12 h => jE h (f8_p11 m x h0 x1 h1 h2 h3 h4 h5 h6 h7 h8 h9 x10 h10 h11 h12 hσ S))) (fun _ h => nomatch h)))))))))))))

end Go.Proofs.Hz
open Go Go.Proofs
namespace Go.Proofs.Hz
/-! ### What is taken of a right model -/
theorem right_of {m : Md} (hq : ∀ i, i < 8 → (m.q i).l.length ≤ 1000) (hup : m.k.l.Pairwise (· < ·)) (hn : ∀ x ∈ m.k.l, 0 ≤ x ∧ x ≤ 65535) (hv : m.v.l.length = m.k.l.length) : rightF m = true := by
  simp only [rightF, Bool.and_eq_true, List.all_eq_true, List.mem_range, decide_eq_true_eq, upF_drop]
  exact ⟨hq, ⟨hn, hup⟩, hv⟩
/-- A model of few values and names, one more at most than a small one. -/
structure Few (m : Md) : Prop where
  q : ∀ i, i < 8 → (m.q i).l.length ≤ 100
  k : m.k.l.length ≤ 100
  v : m.v.l.length = m.k.l.length
  up : m.k.l.Pairwise (· < ·)
  name : ∀ x ∈ m.k.l, 0 ≤ x ∧ x ≤ 65535
theorem Small.few {m : Md} (S : Small m) : Few m := ⟨fun i hi => by have := S.q i hi; omega, by have := S.k; omega, S.v, S.up, S.name⟩
theorem Few.right {m : Md} (S : Few m) : rightF m = true := right_of (fun i hi => by have := S.q i hi; omega) S.up S.name S.v
theorem Few.ok {m : Md} (S : Few m) : okM m = true := okM_of (fun i hi => by have := S.q i hi; omega) (by have := S.k; omega) (by have := S.v; have := S.k; omega)
theorem sameF_refl (m : Md) : sameF m m = true := sameF_refl' (fun _ => rfl) rfl rfl (fun _ => rfl) (fun _ => rfl)
theorem setQ_few {m : Md} (S : Small m) {i : Nat} {x : Sl} (hx : x.l.length ≤ 100) : Few (m.setQ i x) := by
  have F := S.few
  refine ⟨fun j hj => ?_, F.k, F.v, F.up, F.name⟩
  show (if j = i then x else m.q j).l.length ≤ 100
  split
  · exact hx
  · exact F.q j hj
theorem setE_few {m : Md} (S : Few m) {i : Nat} {x : Bool} : Few (m.setE i x) := ⟨S.q, S.k, S.v, S.up, S.name⟩
theorem unord_range (n : Int) : 0 ≤ (unordF n).1 ∧ (unordF n).1 ≤ 65535 := by
  unfold unordF
  split
  · simp
  · obtain ⟨r, h1, h2⟩ := revF_nat (n / 2)
    rw [h1]; simp only; omega
theorem laid_few {m : Md} (S : Small m) {n v : Int} (hn : 0 ≤ n ∧ n ≤ 65535) (hm : n ∉ m.k.l) : ∃ y, laidF m n v = some y ∧ Few y := by
  have hk := S.k
  have hv := S.v
  refine ⟨_, laid_eq S.up (by omega) hv n v, ⟨fun i hi => by have := S.q i hi; show (m.q i).l.length ≤ 100; omega, ?_, ?_, insL_up S.up hm, fun x hx => ?_⟩⟩
  · show (insL m.k.l n).length ≤ 100
    rw [insL_len]; omega
  · show (m.v.l.take (lbF m.k.l n) ++ [v] ++ m.v.l.drop (lbF m.k.l n)).length = (insL m.k.l n).length
    have := lbF_le m.k.l n
    rw [insL_len]; simp; omega
  · have hx' : x ∈ insL m.k.l n := hx
    unfold insL at hx'
    simp only [List.append_assoc, List.mem_append, List.mem_singleton] at hx'
    rcases hx' with h | h | h
    · exact S.name x (List.mem_of_mem_take h)
    · rw [h]; exact hn
    · exact S.name x (List.mem_of_mem_drop h)
theorem cut_few {m : Md} (S : Small m) {i : Nat} (hi : i < m.k.l.length) : ∃ y, cutF m i = some y ∧ Few y := by
  have hk := S.k
  have hv := S.v
  refine ⟨_, cut_eq (by omega) hv hi, ⟨fun j hj => by have := S.q j hj; show (m.q j).l.length ≤ 100; omega, ?_, ?_, cutL_up S.up i, fun x hx => ?_⟩⟩
  · show (cutL m.k.l i).length ≤ 100
    have := cutL_len m.k.l i; omega
  · show (cutL m.v.l i).length = (cutL m.k.l i).length
    rw [cutL_len' _ _ hi, cutL_len' _ _ (by omega)]; omega
  · have hx' : x ∈ cutL m.k.l i := hx
    unfold cutL at hx'
    rcases List.mem_append.1 hx' with h | h
    · exact S.name x (List.mem_of_mem_take h)
    · exact S.name x (List.mem_of_mem_drop h)
/-- Whatever the event: what is taken is told, and right; what can't be, or only looks, changes nothing. -/
theorem take_total {m : Md} (S : Small m) (x : Ev) : ∃ a is, takeFM m x = some (a, is) ∧ Few a ∧ ((is = false ∨ x.kind = 3 ∨ x.kind = 5 ∨ x.kind = 7 ∨ x.kind = 8 ∨ x.kind = 9) → a = m) := by
  have F := S.few
  have same : ∀ {is : Bool}, takeFM m x = some (m, is) → ∃ a is, takeFM m x = some (a, is) ∧ Few a ∧ ((is = false ∨ x.kind = 3 ∨ x.kind = 5 ∨ x.kind = 7 ∨ x.kind = 8 ∨ x.kind = 9) → a = m) := fun h => ⟨m, _, h, F, fun _ => rfl⟩
  have other : ∀ {a : Md}, takeFM m x = some (a, true) → Few a → ¬ (x.kind = 3 ∨ x.kind = 5 ∨ x.kind = 7 ∨ x.kind = 8 ∨ x.kind = 9) → ∃ a is, takeFM m x = some (a, is) ∧ Few a ∧ ((is = false ∨ x.kind = 3 ∨ x.kind = 5 ∨ x.kind = 7 ∨ x.kind = 8 ∨ x.kind = 9) → a = m) := fun {a} h hf hk => ⟨a, true, h, hf, fun h => by
    rcases h with h | h
    · cases h
    · exact (hk h).elim⟩
  by_cases h1 : 1 ≤ x.kind ∧ x.kind ≤ 3
  · have e : takeFM m x = portFM m x := by unfold takeFM; rw [if_pos h1]
    rw [e] at same other ⊢
    unfold portFM at same other ⊢
    by_cases ha : 0 ≤ x.a ∧ x.a ≤ 7
    · rw [if_pos ha] at same other ⊢
      have hq := S.q x.a.toNat (by omega)
      by_cases hk1 : x.kind = 1
      · rw [if_pos hk1, if_pos (by omega)] at same other ⊢
        exact other rfl (setQ_few S (by simp; omega)) (by omega)
      · rw [if_neg hk1] at same other ⊢
        by_cases hk3 : x.kind = 3
        · rw [if_pos hk3] at same other ⊢
          exact same rfl
        · rw [if_neg hk3] at same other ⊢
          cases hl : (m.q x.a.toNat).l with
          | nil => rw [hl] at same other; exact same rfl
          | cons y t =>
            rw [hl] at same other hq
            simp only at same other ⊢
            by_cases hy : y = x.v
            · rw [if_pos hy] at same other ⊢
              exact other rfl (setQ_few S (by show t.length ≤ 100; simp at hq; omega)) (by omega)
            · rw [if_neg hy] at same other ⊢
              exact same rfl
    · rw [if_neg ha] at same other ⊢
      exact same rfl
  · by_cases h2 : 4 ≤ x.kind ∧ x.kind ≤ 8
    · have e : takeFM m x = namedFM m x := by unfold takeFM; rw [if_neg h1, if_pos h2]
      rw [e] at same other ⊢
      unfold namedFM at same other ⊢
      have hk := S.k
      rw [search_eq S.up (by omega)] at same other ⊢
      simp only [Option.bind_some] at same other ⊢
      by_cases hu : (unordF x.a).2 = false
      · rw [if_pos hu] at same ⊢; exact same rfl
      rw [if_neg hu] at same other ⊢
      by_cases k5 : x.kind = 5
      · rw [if_pos k5] at same ⊢; exact same rfl
      rw [if_neg k5] at same other ⊢
      by_cases k8 : x.kind = 8
      · rw [if_pos k8] at same ⊢; exact same rfl
      rw [if_neg k8] at same other ⊢
      by_cases k7 : x.kind = 7
      · rw [if_pos k7] at same ⊢; exact same rfl
      rw [if_neg k7] at same other ⊢
      by_cases hd : decide ((unordF x.a).1 ∈ m.k.l) ≠ decide (x.kind = 6)
      · rw [if_pos hd] at same ⊢; exact same rfl
      rw [if_neg hd] at same other ⊢
      by_cases hm : (unordF x.a).1 ∈ m.k.l
      · rw [if_pos (by simpa using hm)] at other ⊢
        obtain ⟨y, hy, hf⟩ := cut_few S ((mem_lb S.up).1 hm).1
        rw [hy] at other ⊢
        exact other rfl hf (by omega)
      · rw [if_neg (by simpa using hm)] at other ⊢
        obtain ⟨y, hy, hf⟩ := laid_few (v := x.v) S (unord_range _) hm
        rw [hy] at other ⊢
        exact other rfl hf (by omega)
    · unfold takeFM at same other ⊢
      rw [if_neg h1, if_neg h2] at same other ⊢
      by_cases k9 : x.kind = 9
      · rw [if_pos k9] at same ⊢; exact same rfl
      rw [if_neg k9] at same other ⊢
      by_cases hk : x.kind < 10 ∨ x.kind > 12
      · rw [if_pos hk] at same ⊢; exact same rfl
      rw [if_neg hk] at same other ⊢
      by_cases ha : 0 ≤ x.a ∧ x.a ≤ 15
      · rw [if_pos ha] at same other ⊢
        by_cases k12 : x.kind = 12
        · rw [if_pos k12] at same other ⊢
          have ht : testedF m x.a = some (m.setE x.a.toNat (m.e x.a.toNat && !(m.s x.a.toNat)), if m.e x.a.toNat then 1 else 0) := by unfold testedF; rw [if_pos ha]
          rw [ht] at same other ⊢
          simp only [Option.bind_some] at same other ⊢
          by_cases hv : (if m.e x.a.toNat = true then (1 : Int) else 0) = x.v
          · rw [if_pos hv] at other ⊢
            exact other rfl (setE_few F) (by omega)
          · rw [if_neg hv] at same ⊢
            exact same rfl
        · rw [if_neg k12] at same other ⊢
          exact other rfl (setE_few F) (by omega)
      · rw [if_neg ha] at same ⊢
        exact same rfl
theorem take_cb (m : Md) (x : Ev) (c b : Int) : takeFM m ⟨c, x.kind, x.a, b, x.v⟩ = takeFM m x := by
  unfold takeFM portFM namedFM
  rfl
theorem takes_law {m : Md} {x : Ev} : f8 m x = some (.bool true) := by
  unfold f8
  by_cases hsm : smallF m = true
  rotate_left 1
  · rw [if_pos (by simpa using hsm)]
  rw [if_neg (by simp [hsm])]
  obtain ⟨a, is, ht, hf, hsame⟩ := take_total (small_of hsm) x
  rw [ht, take_cb m x, ht]
  simp only [Option.bind_some]
  have hok := hf.ok
  have hr := hf.right
  have hk : List.length (Md.k a).l ≤ 1000000 := by have := hf.k; omega
  have hself := sameF_refl a
  have hs : (is = false ∨ x.kind = 3 ∨ x.kind = 5 ∨ x.kind = 7 ∨ x.kind = 8 ∨ x.kind = 9) → sameF a m = true := fun h => by rw [hsame h]; exact sameF_refl m
  by_cases h3 : x.kind = 3
  · rw [if_pos h3]; have := hs (by simp [h3]); split <;> simp [hok, this, hk, hr, hself]
  rw [if_neg h3]
  by_cases h5 : x.kind = 5
  · rw [if_pos h5]; have := hs (by simp [h5]); split <;> simp [hok, this, hk, hr, hself]
  rw [if_neg h5]
  by_cases h7 : x.kind = 7
  · rw [if_pos h7]; have := hs (by simp [h7]); split <;> simp [hok, this, hk, hr, hself]
  rw [if_neg h7]
  by_cases h8 : x.kind = 8
  · rw [if_pos h8]; have := hs (by simp [h8]); split <;> simp [hok, this, hk, hr, hself]
  rw [if_neg h8]
  cases is with
  | false => have := hs (.inl rfl); simp [hok, this, hk, hr, hself]
  | true =>
    rw [if_neg (by simp)]
    by_cases h9 : x.kind = 9
    · rw [if_pos h9]; have := hs (by simp [h9]); simp [hok, this, hk, hr, hself]
    · rw [if_neg h9]; simp [hok, hk, hr, hself]
theorem takes_ok (m : Md) (x : Ev) : Spec FF 8 [m.av, x.av] (.bool true) := f8_ok m x takes_law
end Go.Proofs.Hz
namespace Go.Proofs.Ytpidaficnfaedaa
open Go.ChangeShapes Go.WideShapes Go.ChangeAt Go.RowKit Go.Proofs.Hz

theorem own : ownKnob Try.prog.godebug = none := by kernel_rfl
theorem laidOut : laidOutB Try.prog = true := by kernel_rfl
theorem u3 : Try.prog.underlying 3 = some (.int .i64) := by kernel_rfl
theorem u4 : Try.prog.underlying 4 = some .bool := by kernel_rfl
theorem u22 : Try.prog.underlying 22 = some (.slice 3) := by kernel_rfl
theorem u23 : Try.prog.underlying 23 = some (.array 8 22) := by kernel_rfl
theorem u24 : Try.prog.underlying 24 = some (.array 16 4) := by kernel_rfl
theorem u46 : Try.prog.underlying 46 = some (.int .u16) := by kernel_rfl
theorem u26 : ∃ fs : Array Field, Try.prog.underlying 26 = some (.struct fs) ∧ fs.toList.map (·.type) = [23, 22, 22, 24, 24] := ⟨_, rfl, by kernel_rfl⟩

theorem row_of {n : Nat} {xs : List AV} (h : SH Try.prog (n + 2) 22 xs) : ∃ x : Sl, xs = [x.av] := by
  unfold SH at h
  rw [u22] at h
  obtain ⟨els, c, rfl, _, he⟩ := h
  obtain ⟨l, rfl, _⟩ := ints_of u3 he
  exact ⟨⟨l, c⟩, rfl⟩
theorem bool_of {n : Nat} {xs : List AV} (h : SH Try.prog (n + 1) 4 xs) : ∃ b, xs = [.bool b] := by
  unfold SH at h
  rw [u4] at h
  exact h
theorem rows8 {n : Nat} : ∀ {parts : List (List AV)}, (∀ p ∈ parts, SH Try.prog (n + 2) 22 p) → ∃ l : List Sl, parts = l.map (fun x => [x.av])
  | [], _ => ⟨[], rfl⟩
  | p :: ps, h => by
    obtain ⟨l, rfl⟩ := rows8 fun q hq => h q (List.mem_cons_of_mem _ hq)
    obtain ⟨x, rfl⟩ := row_of (h p (List.mem_cons_self ..))
    exact ⟨x :: l, rfl⟩
theorem bools16 {n : Nat} : ∀ {parts : List (List AV)}, (∀ p ∈ parts, SH Try.prog (n + 1) 4 p) → ∃ l : List Bool, parts = l.map (fun x => [.bool x])
  | [], _ => ⟨[], rfl⟩
  | p :: ps, h => by
    obtain ⟨l, rfl⟩ := bools16 fun q hq => h q (List.mem_cons_of_mem _ hq)
    obtain ⟨x, rfl⟩ := bool_of (h p (List.mem_cons_self ..))
    exact ⟨x :: l, rfl⟩
theorem arr8 {n : Nat} {xs : List AV} (h : SH Try.prog (n + 3) 23 xs) : ∃ q : Nat → Sl, xs = [(q 0).av, (q 1).av, (q 2).av, (q 3).av, (q 4).av, (q 5).av, (q 6).av, (q 7).av] := by
  unfold SH at h
  rw [u23] at h
  obtain ⟨parts, rfl, hl, hp⟩ := h
  obtain ⟨l, rfl⟩ := rows8 hp
  simp only [List.length_map] at hl
  match l, hl with
  | [a, b, c, d, e, f, g, i], _ => exact ⟨fun j => [a, b, c, d, e, f, g, i].getD j default, rfl⟩
theorem arr16 {n : Nat} {xs : List AV} (h : SH Try.prog (n + 2) 24 xs) : ∃ e : Nat → Bool, xs = [.bool (e 0), .bool (e 1), .bool (e 2), .bool (e 3), .bool (e 4), .bool (e 5), .bool (e 6), .bool (e 7), .bool (e 8), .bool (e 9), .bool (e 10), .bool (e 11), .bool (e 12), .bool (e 13), .bool (e 14), .bool (e 15)] := by
  unfold SH at h
  rw [u24] at h
  obtain ⟨parts, rfl, hl, hp⟩ := h
  obtain ⟨l, rfl⟩ := bools16 hp
  simp only [List.length_map] at hl
  match l, hl with
  | [a0, a1, a2, a3, a4, a5, a6, a7, a8, a9, a10, a11, a12, a13, a14, a15], _ => exact ⟨fun j => [a0, a1, a2, a3, a4, a5, a6, a7, a8, a9, a10, a11, a12, a13, a14, a15].getD j false, rfl⟩
theorem model_of {n : Nat} {xs : List AV} (h : SH Try.prog (n + 4) 26 xs) : ∃ m : Md, xs = m.cells := by
  obtain ⟨fs, hu, hf⟩ := u26
  unfold SH at h
  rw [hu] at h
  obtain ⟨parts, rfl, hl, hp⟩ := h
  have hfs : ∀ i t, [23, 22, 22, 24, 24][i]? = some t → ∃ f : Field, fs[i]? = some f ∧ f.type = t := fun i t ht => by
    rw [← hf, List.getElem?_map, Option.map_eq_some_iff] at ht
    obtain ⟨f, h1, h2⟩ := ht
    exact ⟨f, by rwa [Array.getElem?_toList] at h1, h2⟩
  have h5 : parts.length = 5 := by
    have := congrArg List.length hf
    simp at this
    omega
  match parts, h5 with
  | [p0, p1, p2, p3, p4], _ =>
    have get : ∀ i t p, [23, 22, 22, 24, 24][i]? = some t → [p0, p1, p2, p3, p4][i]? = some p → SH Try.prog (n + 3) t p := fun i t p ht hq => by
      obtain ⟨f, h1, h2⟩ := hfs i t ht
      rw [← h2]; exact hp i f p h1 hq
    obtain ⟨q, rfl⟩ := arr8 (get 0 23 p0 rfl rfl)
    obtain ⟨k, rfl⟩ := row_of (get 1 22 p1 rfl rfl)
    obtain ⟨v, rfl⟩ := row_of (get 2 22 p2 rfl rfl)
    obtain ⟨e, rfl⟩ := arr16 (get 3 24 p3 rfl rfl)
    obtain ⟨s, rfl⟩ := arr16 (get 4 24 p4 rfl rfl)
    exact ⟨⟨q, k, v, e, s⟩, rfl⟩
theorem argV26 (xs : List AV) : argV Try.prog 26 xs = .agg xs := by
  obtain ⟨fs, hu, _⟩ := u26
  unfold argV; rw [hu]
/-- A model, as an argument. -/
theorem arg_model {H : Type} {enc : TypeId × Value → H} {w : World} {v : Value} {d : DataW H} {ps : List MemPlace} {base : Nat} (hval : Value.okWide Try.prog w .any base 26 v) (h : DataW.Trod enc Try.prog w 0 (fun _ => true) true 26 v d ps) :
    ∃ m : Md, R (fun b => b < w.heap.size) w Ids.none Ren.none m.av v := by
  obtain ⟨xs, hS, hR⟩ := arg_abs (n := 6) (by kernel_rfl) hval h
  obtain ⟨m, rfl⟩ := model_of hS
  rw [argV26] at hR
  exact ⟨m, hR⟩


theorem u27 : ∃ fs : Array Field, Try.prog.underlying 28 = some (.struct fs) ∧ fs.toList.map (·.type) = [3, 3, 3] := ⟨_, rfl, by kernel_rfl⟩
theorem u40 : ∃ fs : Array Field, Try.prog.underlying 40 = some (.struct fs) ∧ fs.toList.map (·.type) = [3, 3, 3, 3, 3] := ⟨_, rfl, by kernel_rfl⟩
theorem int_of {n : Nat} {xs : List AV} (h : SH Try.prog (n + 1) 3 xs) : ∃ m, xs = [.int .i64 m] ∧ -9223372036854775808 ≤ m ∧ m ≤ 9223372036854775807 := by
  unfold SH at h
  rw [u3] at h
  obtain ⟨m, rfl, hw⟩ := h
  exact ⟨m, rfl, bounds_i64 hw⟩
theorem parts_of {n t : Nat} {xs : List AV} {fs : Array Field} {ts : List Nat} (hu : Try.prog.underlying t = some (.struct fs)) (hf : fs.toList.map (·.type) = ts) (h : SH Try.prog (n + 1) t xs) :
    ∃ parts : List (List AV), xs = parts.flatten ∧ parts.length = ts.length ∧ ∀ (i : Nat) (u : Nat) (p : List AV), ts[i]? = some u → parts[i]? = some p → SH Try.prog n u p := by
  unfold SH at h
  rw [hu] at h
  obtain ⟨parts, rfl, hl, hp⟩ := h
  refine ⟨parts, rfl, by rw [hl, ← hf]; simp, fun i u p hi hq => ?_⟩
  rw [← hf, List.getElem?_map, Option.map_eq_some_iff] at hi
  obtain ⟨f, h1, h2⟩ := hi
  rw [← h2]
  exact hp i f p (by rwa [Array.getElem?_toList] at h1) hq
theorem call_of {n : Nat} {xs : List AV} (h : SH Try.prog (n + 2) 28 xs) : ∃ c : Cl, xs = [.int .i64 c.no, .int .i64 c.a, .int .i64 c.b] ∧ (-9223372036854775808 ≤ c.b ∧ c.b ≤ 9223372036854775807) := by
  obtain ⟨fs, hu, hf⟩ := u27
  obtain ⟨parts, rfl, hl, hp⟩ := parts_of hu hf h
  match parts, hl with
  | [p0, p1, p2], _ =>
    obtain ⟨a, rfl, _⟩ := int_of (hp 0 3 p0 rfl rfl)
    obtain ⟨b, rfl, _⟩ := int_of (hp 1 3 p1 rfl rfl)
    obtain ⟨c, rfl, hc⟩ := int_of (hp 2 3 p2 rfl rfl)
    exact ⟨⟨a, b, c⟩, rfl, hc⟩
theorem ev_of {n : Nat} {xs : List AV} (h : SH Try.prog (n + 2) 40 xs) : ∃ x : Ev, xs = [.int .i64 x.core, .int .i64 x.kind, .int .i64 x.a, .int .i64 x.b, .int .i64 x.v] := by
  obtain ⟨fs, hu, hf⟩ := u40
  obtain ⟨parts, rfl, hl, hp⟩ := parts_of hu hf h
  match parts, hl with
  | [p0, p1, p2, p3, p4], _ =>
    obtain ⟨a, rfl, _⟩ := int_of (hp 0 3 p0 rfl rfl)
    obtain ⟨b, rfl, _⟩ := int_of (hp 1 3 p1 rfl rfl)
    obtain ⟨c, rfl, _⟩ := int_of (hp 2 3 p2 rfl rfl)
    obtain ⟨d, rfl, _⟩ := int_of (hp 3 3 p3 rfl rfl)
    obtain ⟨e, rfl, _⟩ := int_of (hp 4 3 p4 rfl rfl)
    exact ⟨⟨a, b, c, d, e⟩, rfl⟩
theorem arg_call {H : Type} {enc : TypeId × Value → H} {w : World} {v : Value} {d : DataW H} {ps : List MemPlace} {base : Nat} (hval : Value.okWide Try.prog w .any base 28 v) (h : DataW.Trod enc Try.prog w 0 (fun _ => true) true 28 v d ps) :
    ∃ c : Cl, R (fun b => b < w.heap.size) w Ids.none Ren.none c.av v ∧ (-9223372036854775808 ≤ c.b ∧ c.b ≤ 9223372036854775807) := by
  obtain ⟨xs, hS, hR⟩ := arg_abs (n := 4) (by kernel_rfl) hval h
  obtain ⟨c, rfl, hc⟩ := call_of hS
  obtain ⟨fs, hu, _⟩ := u27
  unfold argV at hR
  rw [hu] at hR
  exact ⟨c, hR, hc⟩
theorem arg_ev {H : Type} {enc : TypeId × Value → H} {w : World} {v : Value} {d : DataW H} {ps : List MemPlace} {base : Nat} (hval : Value.okWide Try.prog w .any base 40 v) (h : DataW.Trod enc Try.prog w 0 (fun _ => true) true 40 v d ps) :
    ∃ x : Ev, R (fun b => b < w.heap.size) w Ids.none Ren.none x.av v := by
  obtain ⟨xs, hS, hR⟩ := arg_abs (n := 4) (by kernel_rfl) hval h
  obtain ⟨x, rfl⟩ := ev_of hS
  obtain ⟨fs, hu, _⟩ := u40
  unfold argV at hR
  rw [hu] at hR
  exact ⟨x, hR⟩
/-- A model of nothing, as a value. -/
def nilMd : Value := .agg #[.slice none 0 0, .slice none 0 0, .slice none 0 0, .slice none 0 0, .slice none 0 0, .slice none 0 0, .slice none 0 0, .slice none 0 0, .slice none 0 0, .slice none 0 0,
  .bool false, .bool false, .bool false, .bool false, .bool false, .bool false, .bool false, .bool false, .bool false, .bool false, .bool false, .bool false, .bool false, .bool false, .bool false, .bool false,
  .bool false, .bool false, .bool false, .bool false, .bool false, .bool false, .bool false, .bool false, .bool false, .bool false, .bool false, .bool false, .bool false, .bool false, .bool false, .bool false]
end Go.Proofs.Ytpidaficnfaedaa
namespace Go.Proofs.Ytpidaficnfaedaa
open Go.ChangeShapes Go.WideShapes Go.ChangeAt Go.RowKit Go.Proofs.Hz
set_option maxRecDepth 100000 in
theorem takes_lifted (os : Os) (started : os.Started) (H : Type) (enc : TypeId × Value → H) :
    ReturnsInHanded {} Try.checked os 8 .any (Rows.modelTakesSpec.pre6 enc Try.prog Try.f8 Rows.modelTakesRow.domain false) (Rows.modelTakesSpec.post enc Try.prog Try.f8 false true false false) := by
  refine returnsInHanded_of_change (C := Try.checked) own started (by kernel_rfl) Try.func8
    (ChangeSpec.witness6 (enc := enc) (C := Try.checked) false ⟨#[], #[nilMd, .agg #[.int .i64 0, .int .i64 0, .int .i64 0, .int .i64 0, .int .i64 0]], []⟩ 8 (by kernel_rfl) (by kernel_rfl) (by kernel_rfl) (by kernel_rfl)) ?_
  intro W base args ds gs before hval0 hW hcnd _
  have hval : ∀ (j : Nat) t v, Try.f8.params[j]? = some t → args[j]? = some v → Value.okWide Try.prog W .any base t v := hval0
  have hW' := hW
  obtain ⟨p, q, hA0, hV, rfl, hfz, hnd⟩ := hW
  have hA : DataW.TrodAll enc Try.prog W 0 (fun _ => true) true Try.f8.params.toList args.toList ds p := hA0
  have hA1 := hA
  rw [Try.params8] at hA hval
  obtain ⟨v0, v1, d0, d1, p0, p1, rfl, rfl, rfl, h0, h1⟩ := trodAll_two hA
  obtain ⟨rfl, rfl⟩ := trodVars_none hV
  obtain ⟨m, hm⟩ := arg_model (hval 0 26 v0 rfl rfl) h0
  obtain ⟨x, hx⟩ := arg_ev (hval 1 40 v1 rfl rfl) h1
  simp only [List.append_nil] at hW'
  refine (law_calls (pu := puN) (F := FF) (fun f af h => h) (takes_ok m x) (RL.cons hm (RL.cons hx RL.nil))).mono fun e W' ⟨he, hw⟩ => ?_
  subst he
  exact ⟨_, rfl, law_post (P := Try.prog) laidOut rfl hW' (by simpa using hA1) rfl (by kernel_rfl) rfl u4 hw⟩

theorem takes_holds : Rows.ModelTakesSaid :=
  OpenClaim.holds_of_wide 8 Try.f8 rfl rfl rfl rfl rfl rfl rfl ⟨rfl, rfl, rfl, rfl, rfl⟩ rfl rfl rfl rfl rfl (by kernel_rfl) Try.func8 (by kernel_rfl)
    (of_decide_eq_true (by kernel_rfl)) (by unfold Func.isWrapper; first | (rw [if_pos (by decide +kernel)]; kernel_rfl) | (rw [if_neg (by decide +kernel)]; exact ⟨rfl, rfl⟩))
    (fun os started H enc _ => takes_lifted os started H enc)
end Go.Proofs.Ytpidaficnfaedaa
