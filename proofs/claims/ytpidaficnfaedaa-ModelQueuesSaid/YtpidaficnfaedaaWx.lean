/-
  Chapter 17: what syscalls mean.
  Conditions: none.
-/
import Derived.Test.YtpidaficnfaedaaWf
import Derived.Test.YtpidaficnfaedaaN
open Go Go.Proofs
namespace Go.Proofs.Hz
theorem f17_eq {m : Md} {x : Ev} {y : Md × Bool} (h : takeFM m x = some y) : f17 m x = some (.tup [y.1.av, .bool y.2]) := by
  unfold takeFM at h
  have fin : ∀ {o : Option (Md × Bool)}, o = some y → (o.bind fun z => some (AV.tup [(Md.av z.1), (.bool z.2)])) = some (.tup [y.1.av, .bool y.2]) := fun h => by rw [h]; rfl
  unfold f17
  by_cases h1 : 1 ≤ x.kind ∧ x.kind ≤ 3
  · rw [if_pos h1] at h
    have : x.kind = 1 ∨ x.kind = 2 ∨ x.kind = 3 := by omega
    rcases this with e | e | e
    · rw [if_pos e]; exact fin h
    · rw [if_neg (by omega), if_pos e]; exact fin h
    · rw [if_neg (by omega), if_neg (by omega), if_pos e]; exact fin h
  rw [if_neg h1] at h
  rw [if_neg (by omega), if_neg (by omega), if_neg (by omega)]
  by_cases h2 : 4 ≤ x.kind ∧ x.kind ≤ 8
  · rw [if_pos h2] at h
    have : x.kind = 4 ∨ x.kind = 5 ∨ x.kind = 6 ∨ x.kind = 7 ∨ x.kind = 8 := by omega
    rcases this with e | e | e | e | e
    · rw [if_pos e]; exact fin h
    · rw [if_neg (by omega), if_pos e]; exact fin h
    · rw [if_neg (by omega), if_neg (by omega), if_pos e]; exact fin h
    · rw [if_neg (by omega), if_neg (by omega), if_neg (by omega), if_pos e]; exact fin h
    · rw [if_neg (by omega), if_neg (by omega), if_neg (by omega), if_neg (by omega), if_pos e]; exact fin h
  rw [if_neg h2] at h
  rw [if_neg (by omega), if_neg (by omega), if_neg (by omega), if_neg (by omega), if_neg (by omega)]
  by_cases h3 : x.kind = 9
  · rw [if_pos h3] at h ⊢; cases h; rfl
  rw [if_neg h3] at h ⊢
  by_cases h4 : x.kind < 10
  · rw [if_pos (.inl h4)] at h; cases h; rw [if_pos h4]
  by_cases h5 : x.kind > 12
  · rw [if_pos (.inr h5)] at h; cases h; rw [if_neg h4, if_pos h5]
  rw [if_neg (by omega)] at h
  rw [if_neg h4, if_neg h5]
  by_cases ha : 0 ≤ x.a ∧ x.a ≤ 15
  · have hb : belowF x.a 16 = true := by simp [belowF]; omega
    rw [if_pos ha] at h
    rw [if_neg (by simp [hb])]
    by_cases h6 : x.kind = 12
    · rw [if_pos h6] at h ⊢
      cases ht : testedF m x.a with
      | none => rw [ht] at h; cases h
      | some t =>
        rw [ht] at h
        simp only [Option.bind_some] at h ⊢
        split at h
        · rename_i e; cases h; rw [if_pos e]
        · rename_i e; cases h; rw [if_neg e]
    · rw [if_neg h6] at h ⊢
      cases h
      obtain ⟨j, hj⟩ : ∃ j : Nat, x.a = j := ⟨x.a.toNat, by omega⟩
      have hj15 : j = 0 ∨ j = 1 ∨ j = 2 ∨ j = 3 ∨ j = 4 ∨ j = 5 ∨ j = 6 ∨ j = 7 ∨ j = 8 ∨ j = 9 ∨ j = 10 ∨ j = 11 ∨ j = 12 ∨ j = 13 ∨ j = 14 ∨ j = 15 := by omega
      rw [hj]
      rcases hj15 with rfl | rfl | rfl | rfl | rfl | rfl | rfl | rfl | rfl | rfl | rfl | rfl | rfl | rfl | rfl | rfl <;> simp
  · have hb : belowF x.a 16 = false := by simp [belowF]; omega
    rw [if_neg ha] at h
    cases h
    rw [if_pos (by simp [hb])]
/-! ### Rows that rise -/
theorem take_lb {l : List Int} {x : Int} : l.take (lbF l x) = l.takeWhile fun y => decide (y < x) := by
  have h := List.takeWhile_prefix (l := l) fun y => decide (y < x)
  exact (List.prefix_iff_eq_take.1 h).symm
theorem mem_take_lb {l : List Int} {x y : Int} (h : y ∈ l.take (lbF l x)) : y < x := by
  obtain ⟨i, hi, e⟩ := List.getElem_of_mem h
  rw [List.length_take] at hi
  rw [List.getElem_take] at e
  rw [← e]
  exact lb_lt (by omega) (by omega)
theorem mem_drop_lb {l : List Int} (hs : l.Pairwise (· < ·)) {x y : Int} (h : y ∈ l.drop (lbF l x)) : x ≤ y := by
  obtain ⟨i, hi, e⟩ := List.getElem_of_mem h
  rw [List.getElem_drop] at e
  rw [← e]
  exact lb_ge hs (by simp at hi; omega) (Nat.le_add_right _ _)
/-- A row with something laid in where it belongs. -/
def insL (l : List Int) (x : Int) : List Int := l.take (lbF l x) ++ [x] ++ l.drop (lbF l x)
theorem insL_up {l : List Int} (hs : l.Pairwise (· < ·)) {x : Int} (hx : x ∉ l) : (insL l x).Pairwise (· < ·) := by
  unfold insL
  rw [List.append_assoc, List.pairwise_append]
  refine ⟨hs.sublist (List.take_sublist _ _), ?_, fun a ha b hb => ?_⟩
  · rw [List.singleton_append, List.pairwise_cons]
    refine ⟨fun y hy => ?_, hs.sublist (List.drop_sublist _ _)⟩
    have h1 := mem_drop_lb hs hy
    have h2 : x ≠ y := fun e => hx (e ▸ List.mem_of_mem_drop hy)
    omega
  · have h1 := mem_take_lb ha
    rcases List.mem_cons.1 (by simpa using hb) with rfl | hb
    · exact h1
    · have := mem_drop_lb hs hb; omega
theorem insL_lb {l : List Int} {x : Int} : lbF (insL l x) x = lbF l x := by
  unfold insL
  conv => lhs; unfold lbF
  rw [List.append_assoc, List.takeWhile_append_of_pos (fun y hy => by simpa using mem_take_lb hy)]
  simp [lbF]
  exact Nat.min_eq_left (List.takeWhile_prefix _).length_le
theorem insL_mem {l : List Int} {x : Int} : x ∈ insL l x := by simp [insL]
theorem insL_len {l : List Int} {x : Int} : (insL l x).length = l.length + 1 := by
  have := lbF_le l x
  simp [insL]; omega
/-- A row without what stands at a place. -/
def cutL {α : Type} (l : List α) (i : Nat) : List α := l.take i ++ l.drop (i + 1)
theorem cut_ins {α : Type} (l : List α) (i : Nat) (x : α) (h : i ≤ l.length) : cutL (l.take i ++ [x] ++ l.drop i) i = l := by
  unfold cutL
  have h1 : (l.take i).length = i := by simp; omega
  rw [List.append_assoc, List.take_left' h1]
  rw [show i + 1 = (l.take i ++ [x]).length by simp; omega, ← List.append_assoc, List.drop_left' rfl, List.take_append_drop]
theorem cutL_up {l : List Int} (hs : l.Pairwise (· < ·)) (i : Nat) : (cutL l i).Pairwise (· < ·) := by
  unfold cutL
  rw [List.pairwise_append]
  refine ⟨hs.sublist (List.take_sublist _ _), hs.sublist (List.drop_sublist _ _), fun a ha b hb => ?_⟩
  obtain ⟨j, hj, rfl⟩ := List.getElem_of_mem ha
  obtain ⟨k, hk, rfl⟩ := List.getElem_of_mem hb
  simp only [List.length_take, List.length_drop] at hj hk
  rw [List.getElem_take, List.getElem_drop]
  exact List.pairwise_iff_getElem.1 hs _ _ (by omega) (by omega) (by omega)
theorem cutL_not {l : List Int} (hs : l.Pairwise (· < ·)) {x : Int} : x ∉ cutL l (lbF l x) := by
  unfold cutL
  intro h
  rcases List.mem_append.1 h with h | h
  · have := mem_take_lb h; omega
  · obtain ⟨k, hk, e⟩ := List.getElem_of_mem h
    simp only [List.length_drop] at hk
    rw [List.getElem_drop] at e
    have h1 := lb_ge hs (x := x) (i := lbF l x) (by omega) (Nat.le_refl _)
    have h2 := List.pairwise_iff_getElem.1 hs (lbF l x) (lbF l x + 1 + k) (by omega) (by omega) (by omega)
    omega
theorem cutL_len {α : Type} (l : List α) (i : Nat) : (cutL l i).length ≤ l.length := by
  unfold cutL; simp; omega
theorem cutL_len' {α : Type} (l : List α) (i : Nat) (h : i < l.length) : (cutL l i).length = l.length - 1 := by
  unfold cutL; simp; omega
/-! ### Names and keys -/
theorem rv_app : ∀ (k x a : Nat), rv k x a = a * 2 ^ k + rv k x 0
  | 0, x, a => by simp [rv]
  | k + 1, x, a => by
    rw [rv, rv, rv_app k (x / 2) (2 * a + x % 2), rv_app k (x / 2) (2 * 0 + x % 2)]
    rw [Nat.pow_succ, Nat.add_mul, Nat.mul_zero, Nat.zero_add]
    have : 2 * a * 2 ^ k = a * (2 ^ k * 2) := by rw [Nat.mul_comm 2 a, Nat.mul_assoc, Nat.mul_comm 2]
    omega
theorem rv_split : ∀ (j k x : Nat), rv (j + k) x 0 = rv j x 0 * 2 ^ k + rv k (x / 2 ^ j) 0
  | 0, k, x => by simp [rv]
  | j + 1, k, x => by
    rw [show j + 1 + k = (j + k) + 1 by omega, rv, rv, rv_app (j + k), rv_app j, rv_split j k (x / 2)]
    have h1 : x / 2 / 2 ^ j = x / 2 ^ (j + 1) := by rw [Nat.div_div_eq_div_mul, Nat.pow_succ, Nat.mul_comm]
    rw [h1, Nat.pow_add, Nat.mul_zero, Nat.zero_add, Nat.add_mul, Nat.mul_assoc]
    omega
theorem rv_mod : ∀ (k x y : Nat), rv k (x + 2 ^ k * y) 0 = rv k x 0
  | 0, x, y => by simp [rv]
  | k + 1, x, y => by
    rw [rv, rv]
    have h1 : (x + 2 ^ (k + 1) * y) % 2 = x % 2 := by rw [Nat.pow_succ, Nat.mul_comm (2 ^ k) 2, Nat.mul_assoc]; omega
    have h2 : (x + 2 ^ (k + 1) * y) / 2 = x / 2 + 2 ^ k * y := by rw [Nat.pow_succ, Nat.mul_comm (2 ^ k) 2, Nat.mul_assoc]; omega
    rw [h1, h2, rv_app k (x / 2 + 2 ^ k * y), rv_app k (x / 2), rv_mod k]
theorem rv8_all : ((List.range 256).all fun x => rv 8 (rv 8 x 0) 0 == x) = true := by kernel_rfl
theorem rv8 (x : Nat) (h : x < 256) : rv 8 (rv 8 x 0) 0 = x := by
  have := List.all_eq_true.1 rv8_all x (List.mem_range.2 h)
  simpa using this
theorem rv8_lt (x : Nat) : rv 8 x 0 < 256 := rv_lt 8 x 0 0 (by simp)
theorem rv16_rv16 (x : Nat) (h : x < 65536) : rv 16 (rv 16 x 0) 0 = x := by
  have e1 : ∀ y, rv 16 y 0 = rv 8 y 0 * 256 + rv 8 (y / 256) 0 := fun y => rv_split 8 8 y
  have e2 : ∀ y, rv 8 y 0 = rv 8 (y % 256) 0 := fun y => by
    have := rv_mod 8 (y % 256) (y / 256)
    rw [show y % 256 + 2 ^ 8 * (y / 256) = y by omega] at this
    exact this
  have l1 := rv8_lt x
  have l2 := rv8_lt (x / 256)
  rw [e1 (rv 16 x 0), e1 x, e2 (rv 8 x 0 * 256 + rv 8 (x / 256) 0)]
  rw [show (rv 8 x 0 * 256 + rv 8 (x / 256) 0) % 256 = rv 8 (x / 256) 0 by omega, show (rv 8 x 0 * 256 + rv 8 (x / 256) 0) / 256 = rv 8 x 0 by omega]
  rw [rv8 (x / 256) (by omega), e2 x, rv8 (x % 256) (by omega)]
  omega
theorem revF_rev {n : Int} (h : 0 ≤ n ∧ n ≤ 65535) : revF (revF n) = n := by
  have e : ∀ {k : Int}, 0 ≤ k ∧ k ≤ 65535 → lowF k = k := fun {k} hk => by
    obtain ⟨x, h1, h2, h3⟩ := lowF_nat k
    rw [h1, h3]; omega
  obtain ⟨r, h1, h2⟩ := revF_nat n
  have h3 : revF (revF n) = (rv 16 (lowF (revF n)).toNat 0 : Nat) := rfl
  rw [h3, e (k := revF n) (by rw [h1]; omega)]
  have h4 : revF n = (rv 16 n.toNat 0 : Nat) := by unfold revF; rw [e h]
  rw [h4, Int.toNat_natCast, rv16_rv16 _ (by omega)]
  omega
theorem unord_ord {n : Int} (h : 0 ≤ n ∧ n ≤ 65535) : unordF (ordF n) = (n, true) := by
  obtain ⟨r, h1, h2⟩ := revF_nat n
  have h3 := revF_rev h
  unfold unordF ordF
  rw [h1] at h3 ⊢
  rw [if_neg (by omega), show (2 * (r : Int) + 1) / 2 = r by omega, h3]
theorem unord_even {n : Int} : unordF (ordF n - 1) = (0, false) := by
  obtain ⟨r, h1, h2⟩ := revF_nat n
  unfold unordF ordF
  rw [h1, if_pos (by omega)]
/-! ### What is taken of names -/
theorem search_eq {l : List Int} (hs : l.Pairwise (· < ·)) (hl : l.length ≤ 1000000) (x : Int) : searchF l x = some ((lbF l x : Int), decide (x ∈ l)) := by
  unfold searchF; rw [if_pos ⟨hs, hl⟩]
theorem with_ins {l : List Int} {i : Nat} {x : Int} (h : i ≤ l.length) (hl : l.length ≤ 100000) : withF l i 0 [x] = some ⟨l.take i ++ [x] ++ l.drop i, false⟩ := by
  unfold withF
  rw [if_pos ⟨by omega, by omega, by omega, by omega, by simp⟩]
  unfold concF
  rw [if_pos (by simp; omega)]
  simp
theorem with_cut {l : List Int} {i : Nat} (h : i < l.length) (hl : l.length ≤ 100000) : withF l i 1 [] = some ⟨cutL l i, (cutL l i).isEmpty⟩ := by
  unfold withF
  rw [if_pos ⟨by omega, by omega, by omega, by omega, by simp⟩]
  unfold concF
  rw [if_pos (by simp; omega)]
  have : (((i : Int) + 1)).toNat = i + 1 := by omega
  simp [cutL, this]
theorem laid_eq {m : Md} (hs : m.k.l.Pairwise (· < ·)) (hl : m.k.l.length ≤ 1000) (hv : m.v.l.length = m.k.l.length) (n v : Int) :
    laidF m n v = some (Md.setV (Md.setK m ⟨insL m.k.l n, false⟩) ⟨m.v.l.take (lbF m.k.l n) ++ [v] ++ m.v.l.drop (lbF m.k.l n), false⟩) := by
  have := lbF_le m.k.l n
  unfold laidF
  rw [search_eq hs (by omega)]
  simp only [Option.bind_some]
  rw [with_ins (by omega) (by omega), with_ins (by omega) (by omega)]
  rfl
theorem cut_eq {m : Md} {i : Nat} (hl : m.k.l.length ≤ 1000) (hv : m.v.l.length = m.k.l.length) (hi : i < m.k.l.length) :
    cutF m i = some (Md.setV (Md.setK m ⟨cutL m.k.l i, (cutL m.k.l i).isEmpty⟩) ⟨cutL m.v.l i, (cutL m.v.l i).isEmpty⟩) := by
  unfold cutF
  rw [with_cut hi (by omega), with_cut (by omega) (by omega)]
  rfl
theorem sameF_refl' {m n : Md} (hq : ∀ i, (m.q i).l = (n.q i).l) (hk : m.k.l = n.k.l) (hv : m.v.l = n.v.l) (he : ∀ i, m.e i = n.e i) (hs : ∀ i, m.s i = n.s i) : sameF m n = true := by
  simp [sameF, eqL, hq, hk, hv, he, hs]
/-! ### The law -/
theorem up_of {l : List Int} (h : upF l = true) : l.Pairwise (· < ·) ∧ ∀ x ∈ l, 0 ≤ x ∧ x ≤ 65535 := by
  rw [upF_drop] at h
  simp only [Bool.and_eq_true, List.all_eq_true, decide_eq_true_eq] at h
  exact ⟨h.2, h.1⟩
structure Small (m : Md) : Prop where
  q : ∀ i, i < 8 → (m.q i).l.length ≤ 40
  k : m.k.l.length ≤ 40
  v : m.v.l.length = m.k.l.length
  up : m.k.l.Pairwise (· < ·)
  name : ∀ x ∈ m.k.l, 0 ≤ x ∧ x ≤ 65535
theorem small_of {m : Md} (h : smallF m = true) : Small m := by
  simp only [smallF, rightF, Bool.and_eq_true, List.all_eq_true, List.mem_range, decide_eq_true_eq] at h
  obtain ⟨h1, h2, h3, h4, h5⟩ := h
  exact ⟨h1, h2, h5, (up_of h4).1, (up_of h4).2⟩
theorem okM_of {m : Md} (hq : ∀ i, i < 8 → (m.q i).l.length ≤ 1000000) (hk : m.k.l.length ≤ 1000000) (hv : m.v.l.length ≤ 1000000) : okM m = true := by
  simp only [okM, Bool.and_eq_true, List.all_eq_true, List.mem_range, decide_eq_true_eq]
  exact ⟨hq, hk, hv⟩
/-- What is taken of a name's key. -/
theorem take_name {m : Md} (hs : m.k.l.Pairwise (· < ·)) (hl : m.k.l.length ≤ 1000) {n : Int} (hn : 0 ≤ n ∧ n ≤ 65535) (kind v c b : Int) (hk : 4 ≤ kind ∧ kind ≤ 8) :
    takeFM m ⟨c, kind, ordF n, b, v⟩ =
      if kind = 5 then some (m, decide (n ∈ m.k.l))
      else if kind = 8 then some (m, decide (n ∈ m.k.l))
      else if kind = 7 then some (m, !decide (n ∈ m.k.l))
      else if decide (n ∈ m.k.l) ≠ decide (kind = 6) then some (m, false)
      else if decide (n ∈ m.k.l) then (cutF m (lbF m.k.l n : Nat)).bind fun y => some (y, true)
      else (laidF m n v).bind fun y => some (y, true) := by
  unfold takeFM
  simp only
  rw [if_neg (by omega), if_pos hk]
  unfold namedFM
  simp only
  rw [unord_ord hn, search_eq hs (by omega)]
  simp only [Option.bind_some]
  rw [if_neg (by simp)]
theorem take_ok {m : Md} {x : Ev} {y : Md × Bool} (h : takeFM m x = some y) : Spec FF 17 [m.av, x.av] (.tup [y.1.av, .bool y.2]) := f17_ok m x (f17_eq h)
end Go.Proofs.Hz
open Go Go.Proofs
namespace Go.Proofs.Hz
def f23 (no : Int) : Option AV :=
  if no ≥ 0 then
    some (.bool (decide (no ≤ 2)))
  else
    some (.bool false)
def f23W : List AV := [(vt 0)]
def f23V (no : Int) (σ : Nat → Nat) : Val := (valL ([.int .i64 no]) ([]) [] σ 0)
def f23X (no : Int) (_σ : Nat → Nat) : List AV := [(.int .i64 no)]
def f23Y (_no : Int) (_σ : Nat → Nat) : List Blk := []
theorem f23E (no : Int) (σ : Nat → Nat) : f23W.map (gm (f23V no σ)) = f23X no σ := by kernel_rfl
theorem f23G (no : Int) (σ : Nat → Nat) : ([] : List Blk).map (gB (f23V no σ)) = f23Y no σ := by kernel_rfl
theorem f23_ok (no : Int) {r0 : AV} (h : f23 no = some r0) : Spec FF 23 [(.int .i64 no)] r0 := by
  unfold f23 at h
  have hσ : ∀ i j : Nat, (fun i : Nat => i) i = (fun i : Nat => i) j → i = j := fun _ _ e => e
  exact spec_begin (ρ := f23V no (fun i => i)) (xs := f23W) (by kernel_rfl) rfl rfl (by kernel_rfl) (fun z0 S => have H := Tok.start hσ S 0 1 0 0 ([.int .i64 no]) ([]) [] (.n) .n (f23E no _) (f23G no _); have H := H.t 2 [.bool (decide (no ≥ 0))] |>.r [(.bin .geq (cT 0) (cI 0), (vt 1))]; iteE h (fun h0 h => have H := H.t 3 [.bool (decide (no ≤ 2))] |>.r [(.bin .leq (cT 0) (cI 2), (vt 2))] |>.m 1 true (decide_eq_true h0); H.e [] h) (fun h0 h => have H := H.m 1 false (decide_eq_false h0); H.e [] h))

def f24 (no : Int) : Option AV :=
  if no ≥ 3 then
    some (.bool (decide (no ≤ 5)))
  else
    some (.bool false)
def f24W : List AV := [(vt 0)]
def f24V (no : Int) (σ : Nat → Nat) : Val := (valL ([.int .i64 no]) ([]) [] σ 0)
def f24X (no : Int) (_σ : Nat → Nat) : List AV := [(.int .i64 no)]
def f24Y (_no : Int) (_σ : Nat → Nat) : List Blk := []
theorem f24E (no : Int) (σ : Nat → Nat) : f24W.map (gm (f24V no σ)) = f24X no σ := by kernel_rfl
theorem f24G (no : Int) (σ : Nat → Nat) : ([] : List Blk).map (gB (f24V no σ)) = f24Y no σ := by kernel_rfl
theorem f24_ok (no : Int) {r0 : AV} (h : f24 no = some r0) : Spec FF 24 [(.int .i64 no)] r0 := by
  unfold f24 at h
  have hσ : ∀ i j : Nat, (fun i : Nat => i) i = (fun i : Nat => i) j → i = j := fun _ _ e => e
  exact spec_begin (ρ := f24V no (fun i => i)) (xs := f24W) (by kernel_rfl) rfl rfl (by kernel_rfl) (fun z0 S => have H := Tok.start hσ S 0 1 0 0 ([.int .i64 no]) ([]) [] (.n) .n (f24E no _) (f24G no _); have H := H.t 2 [.bool (decide (no ≥ 3))] |>.r [(.bin .geq (cT 0) (cI 3), (vt 1))]; iteE h (fun h0 h => have H := H.t 3 [.bool (decide (no ≤ 5))] |>.r [(.bin .leq (cT 0) (cI 5), (vt 2))] |>.m 1 true (decide_eq_true h0); H.e [] h) (fun h0 h => have H := H.m 1 false (decide_eq_false h0); H.e [] h))

def f25 (no : Int) : Option AV :=
  if no ≥ 6 then
    some (.bool (decide (no ≤ 8)))
  else
    some (.bool false)
def f25W : List AV := [(vt 0)]
def f25V (no : Int) (σ : Nat → Nat) : Val := (valL ([.int .i64 no]) ([]) [] σ 0)
def f25X (no : Int) (_σ : Nat → Nat) : List AV := [(.int .i64 no)]
def f25Y (_no : Int) (_σ : Nat → Nat) : List Blk := []
theorem f25E (no : Int) (σ : Nat → Nat) : f25W.map (gm (f25V no σ)) = f25X no σ := by kernel_rfl
theorem f25G (no : Int) (σ : Nat → Nat) : ([] : List Blk).map (gB (f25V no σ)) = f25Y no σ := by kernel_rfl
theorem f25_ok (no : Int) {r0 : AV} (h : f25 no = some r0) : Spec FF 25 [(.int .i64 no)] r0 := by
  unfold f25 at h
  have hσ : ∀ i j : Nat, (fun i : Nat => i) i = (fun i : Nat => i) j → i = j := fun _ _ e => e
  exact spec_begin (ρ := f25V no (fun i => i)) (xs := f25W) (by kernel_rfl) rfl rfl (by kernel_rfl) (fun z0 S => have H := Tok.start hσ S 0 1 0 0 ([.int .i64 no]) ([]) [] (.n) .n (f25E no _) (f25G no _); have H := H.t 2 [.bool (decide (no ≥ 6))] |>.r [(.bin .geq (cT 0) (cI 6), (vt 1))]; iteE h (fun h0 h => have H := H.t 3 [.bool (decide (no ≤ 8))] |>.r [(.bin .leq (cT 0) (cI 8), (vt 2))] |>.m 1 true (decide_eq_true h0); H.e [] h) (fun h0 h => have H := H.m 1 false (decide_eq_false h0); H.e [] h))

def f20 (c : Cl) : Option AV :=
  if c.no ≤ 2 then
    some (.int .i64 0)
  else
    if c.no ≤ 5 then
      some (.int .i64 1)
    else
      if c.no ≤ 8 then
        some (.int .i64 2)
      else
        some (.int .i64 3)
def f20W : List AV := [(.agg [(vt 0), (vt 1), (vt 2)])]
def f20V (c : Cl) (σ : Nat → Nat) : Val := (valL ([.int .i64 c.no, .int .i64 c.a, .int .i64 c.b]) ([]) [] σ 0)
def f20X (c : Cl) (_σ : Nat → Nat) : List AV := [(.agg [(.int .i64 c.no), (.int .i64 c.a), (.int .i64 c.b)])]
def f20Y (_c : Cl) (_σ : Nat → Nat) : List Blk := []
theorem f20E (c : Cl) (σ : Nat → Nat) : f20W.map (gm (f20V c σ)) = f20X c σ := by kernel_rfl
theorem f20G (c : Cl) (σ : Nat → Nat) : ([] : List Blk).map (gB (f20V c σ)) = f20Y c σ := by kernel_rfl
theorem f20_ok (c : Cl) {r0 : AV} (h : f20 c = some r0) : Spec FF 20 [(.agg [(.int .i64 c.no), (.int .i64 c.a), (.int .i64 c.b)])] r0 := by
  unfold f20 at h
  have hσ : ∀ i j : Nat, (fun i : Nat => i) i = (fun i : Nat => i) j → i = j := fun _ _ e => e
  exact spec_begin (ρ := f20V c (fun i => i)) (xs := f20W) (by kernel_rfl) rfl rfl (by kernel_rfl) (fun z0 S => have H := Tok.start hσ S 0 3 0 0 ([.int .i64 c.no, .int .i64 c.a, .int .i64 c.b]) ([]) [] (.n) .n (f20E c _) (f20G c _); have H := H.t 4 [.bool (decide (c.no ≤ 2))] |>.r [(.bin .leq (cT 0) (cI 2), (vt 3))]; iteE h (fun h0 h => have H := H.m 3 true (decide_eq_true h0); H.e [] h) (fun h0 h => have H := H.t 5 [.bool (decide (c.no ≤ 5))] |>.r [(.bin .leq (cT 0) (cI 5), (vt 4))] |>.m 3 false (decide_eq_false h0); iteE h (fun h1 h => have H := H.m 4 true (decide_eq_true h1); H.e [] h) (fun h1 h => have H := H.t 6 [.bool (decide (c.no ≤ 8))] |>.r [(.bin .leq (cT 0) (cI 8), (vt 5))] |>.m 4 false (decide_eq_false h1); iteE h (fun h2 h => have H := H.m 5 true (decide_eq_true h2); H.e [] h) (fun h2 h => have H := H.m 5 false (decide_eq_false h2); H.e [] h))))

def f43 (c : Cl) : Option AV :=
  if c.no < 0 then
    some (.tup [(.agg [(.str []), (.int .i64 0), (.int .i64 0), (.bool false), (.int .i64 0), (.int .i64 0), (.int .i64 0)]), (.bool false)])
  else
    if c.no ≥ 10 then
      some (.tup [(.agg [(.str []), (.int .i64 0), (.int .i64 0), (.bool false), (.int .i64 0), (.int .i64 0), (.int .i64 0)]), (.bool false)])
    else
      if c.no = 0 then
        if c.a ≥ 0 then
          if c.a < 8 then
            if c.b ≥ (-1099511627776) then
              some (.tup [(.agg [(.str [115, 101, 110, 100]), (.int .i64 28), (.int .i64 8), (.bool true), (.int .i64 1), (.int .i64 0), (.int .i64 0)]), (.bool (decide (c.b ≤ 1099511627776)))])
            else
              some (.tup [(.agg [(.str [115, 101, 110, 100]), (.int .i64 28), (.int .i64 8), (.bool true), (.int .i64 1), (.int .i64 0), (.int .i64 0)]), (.bool false)])
          else
            some (.tup [(.agg [(.str [115, 101, 110, 100]), (.int .i64 28), (.int .i64 8), (.bool true), (.int .i64 1), (.int .i64 0), (.int .i64 0)]), (.bool false)])
        else
          some (.tup [(.agg [(.str [115, 101, 110, 100]), (.int .i64 28), (.int .i64 8), (.bool true), (.int .i64 1), (.int .i64 0), (.int .i64 0)]), (.bool false)])
      else
        if c.no = 1 then
          if c.a ≥ 0 then
            if c.a < 8 then
              some (.tup [(.agg [(.str [114, 101, 99, 118]), (.int .i64 29), (.int .i64 8), (.bool false), (.int .i64 2), (.int .i64 0), (.int .i64 0)]), (.bool true)])
            else
              some (.tup [(.agg [(.str [114, 101, 99, 118]), (.int .i64 29), (.int .i64 8), (.bool false), (.int .i64 2), (.int .i64 0), (.int .i64 0)]), (.bool false)])
          else
            some (.tup [(.agg [(.str [114, 101, 99, 118]), (.int .i64 29), (.int .i64 8), (.bool false), (.int .i64 2), (.int .i64 0), (.int .i64 0)]), (.bool false)])
        else
          if c.no = 2 then
            if c.a ≥ 0 then
              if c.a < 8 then
                some (.tup [(.agg [(.str [116, 114, 121]), (.int .i64 10), (.int .i64 8), (.bool false), (.int .i64 2), (.int .i64 3), (.int .i64 0)]), (.bool true)])
              else
                some (.tup [(.agg [(.str [116, 114, 121]), (.int .i64 10), (.int .i64 8), (.bool false), (.int .i64 2), (.int .i64 3), (.int .i64 0)]), (.bool false)])
            else
              some (.tup [(.agg [(.str [116, 114, 121]), (.int .i64 10), (.int .i64 8), (.bool false), (.int .i64 2), (.int .i64 3), (.int .i64 0)]), (.bool false)])
          else
            if c.no = 3 then
              if c.a ≥ 0 then
                if c.a < 65536 then
                  if c.b ≥ (-1099511627776) then
                    some (.tup [(.agg [(.str [112, 117, 116]), (.int .i64 16), (.int .i64 65536), (.bool true), (.int .i64 4), (.int .i64 0), (.int .i64 5)]), (.bool (decide (c.b ≤ 1099511627776)))])
                  else
                    some (.tup [(.agg [(.str [112, 117, 116]), (.int .i64 16), (.int .i64 65536), (.bool true), (.int .i64 4), (.int .i64 0), (.int .i64 5)]), (.bool false)])
                else
                  some (.tup [(.agg [(.str [112, 117, 116]), (.int .i64 16), (.int .i64 65536), (.bool true), (.int .i64 4), (.int .i64 0), (.int .i64 5)]), (.bool false)])
              else
                some (.tup [(.agg [(.str [112, 117, 116]), (.int .i64 16), (.int .i64 65536), (.bool true), (.int .i64 4), (.int .i64 0), (.int .i64 5)]), (.bool false)])
            else
              if c.no = 4 then
                if c.a ≥ 0 then
                  if c.a < 65536 then
                    some (.tup [(.agg [(.str [108, 111, 111, 107]), (.int .i64 17), (.int .i64 65536), (.bool false), (.int .i64 8), (.int .i64 7), (.int .i64 0)]), (.bool true)])
                  else
                    some (.tup [(.agg [(.str [108, 111, 111, 107]), (.int .i64 17), (.int .i64 65536), (.bool false), (.int .i64 8), (.int .i64 7), (.int .i64 0)]), (.bool false)])
                else
                  some (.tup [(.agg [(.str [108, 111, 111, 107]), (.int .i64 17), (.int .i64 65536), (.bool false), (.int .i64 8), (.int .i64 7), (.int .i64 0)]), (.bool false)])
              else
                if c.no = 5 then
                  if c.a ≥ 0 then
                    if c.a < 65536 then
                      some (.tup [(.agg [(.str [99, 117, 116]), (.int .i64 18), (.int .i64 65536), (.bool false), (.int .i64 6), (.int .i64 7), (.int .i64 0)]), (.bool true)])
                    else
                      some (.tup [(.agg [(.str [99, 117, 116]), (.int .i64 18), (.int .i64 65536), (.bool false), (.int .i64 6), (.int .i64 7), (.int .i64 0)]), (.bool false)])
                  else
                    some (.tup [(.agg [(.str [99, 117, 116]), (.int .i64 18), (.int .i64 65536), (.bool false), (.int .i64 6), (.int .i64 7), (.int .i64 0)]), (.bool false)])
                else
                  if c.no = 6 then
                    if c.a ≥ 0 then
                      if c.a < 16 then
                        some (.tup [(.agg [(.str [115, 101, 116]), (.int .i64 19), (.int .i64 16), (.bool false), (.int .i64 10), (.int .i64 0), (.int .i64 0)]), (.bool true)])
                      else
                        some (.tup [(.agg [(.str [115, 101, 116]), (.int .i64 19), (.int .i64 16), (.bool false), (.int .i64 10), (.int .i64 0), (.int .i64 0)]), (.bool false)])
                    else
                      some (.tup [(.agg [(.str [115, 101, 116]), (.int .i64 19), (.int .i64 16), (.bool false), (.int .i64 10), (.int .i64 0), (.int .i64 0)]), (.bool false)])
                  else
                    if c.no = 7 then
                      if c.a ≥ 0 then
                        if c.a < 16 then
                          some (.tup [(.agg [(.str [114, 101, 115, 101, 116]), (.int .i64 20), (.int .i64 16), (.bool false), (.int .i64 11), (.int .i64 0), (.int .i64 0)]), (.bool true)])
                        else
                          some (.tup [(.agg [(.str [114, 101, 115, 101, 116]), (.int .i64 20), (.int .i64 16), (.bool false), (.int .i64 11), (.int .i64 0), (.int .i64 0)]), (.bool false)])
                      else
                        some (.tup [(.agg [(.str [114, 101, 115, 101, 116]), (.int .i64 20), (.int .i64 16), (.bool false), (.int .i64 11), (.int .i64 0), (.int .i64 0)]), (.bool false)])
                    else
                      if c.no = 8 then
                        if c.a ≥ 0 then
                          if c.a < 16 then
                            some (.tup [(.agg [(.str [116, 101, 115, 116]), (.int .i64 21), (.int .i64 16), (.bool false), (.int .i64 12), (.int .i64 0), (.int .i64 0)]), (.bool true)])
                          else
                            some (.tup [(.agg [(.str [116, 101, 115, 116]), (.int .i64 21), (.int .i64 16), (.bool false), (.int .i64 12), (.int .i64 0), (.int .i64 0)]), (.bool false)])
                        else
                          some (.tup [(.agg [(.str [116, 101, 115, 116]), (.int .i64 21), (.int .i64 16), (.bool false), (.int .i64 12), (.int .i64 0), (.int .i64 0)]), (.bool false)])
                      else
                        if c.no = 9 then some (.tup [(.agg [(.str [121, 105, 101, 108, 100]), (.int .i64 27), (.int .i64 0), (.bool false), (.int .i64 0), (.int .i64 0), (.int .i64 0)]), (.bool true)]) else none
def f43W : List AV := [(.agg [(vt 0), (vt 1), (vt 2)])]
def f43V (c : Cl) (σ : Nat → Nat) : Val := (valL ([.int .i64 c.no, .int .i64 c.a, .int .i64 c.b]) ([]) [] σ 0)
def f43X (c : Cl) (_σ : Nat → Nat) : List AV := [(.agg [(.int .i64 c.no), (.int .i64 c.a), (.int .i64 c.b)])]
def f43Y (_c : Cl) (_σ : Nat → Nat) : List Blk := []
theorem f43E (c : Cl) (σ : Nat → Nat) : f43W.map (gm (f43V c σ)) = f43X c σ := by kernel_rfl
theorem f43G (c : Cl) (σ : Nat → Nat) : ([] : List Blk).map (gB (f43V c σ)) = f43Y c σ := by kernel_rfl
set_option maxHeartbeats 10000000 in
theorem f43_ok (c : Cl) {r0 : AV} (h : f43 c = some r0) : Spec FF 43 [(.agg [(.int .i64 c.no), (.int .i64 c.a), (.int .i64 c.b)])] r0 := by
  unfold f43 at h
  have hσ : ∀ i j : Nat, (fun i : Nat => i) i = (fun i : Nat => i) j → i = j := fun _ _ e => e
  exact spec_begin (ρ := f43V c (fun i => i)) (xs := f43W) (by kernel_rfl) rfl rfl (by kernel_rfl) (fun z0 S => have H := Tok.start hσ S 0 3 0 0 ([.int .i64 c.no, .int .i64 c.a, .int .i64 c.b]) ([]) [] (.n) .n (f43E c _) (f43G c _); have H := H.t 4 [.bool (decide (c.no < 0))] |>.r [(.bin .lss (cT 0) (cI 0), (vt 3))] |>.s [] kindsA kinds_ok; iteE h (fun h0 h => have H := H.m 3 true (decide_eq_true h0); H.e [] h) (fun h0 h => have H := H.t 5 [.bool (decide (c.no ≥ 10))] |>.r [(.bin .geq (cT 0) (cI 10), (vt 4))] |>.m 3 false (decide_eq_false h0); iteE h (fun h1 h => have H := H.m 4 true (decide_eq_true h1); H.e [] h) (fun h1 h => have H := H.m 4 false (decide_eq_false h1); iteE h (fun h2 h => have H := H.t 6 [.bool (decide (c.a ≥ 0))] |>.r [(.bin .geq (cT 1) (cI 0), (vt 5))] |>.c (p := (.iaA 10 7 (.c (.ptr 2 0)) (cT 0), (.ptr 2 0))) (fun _ _ _ => fIaP (j := 0) (k := .i64) (n := c.no) (by kernel_rfl) h2 (by decide)); iteE h (fun h3 h => have H := H.t 7 [.bool (decide (c.a < 8))] |>.r [(.bin .lss (cT 1) (cI 8), (vt 6))] |>.m 5 true (decide_eq_true h3); iteE h (fun h4 h => have H := H.t 8 [.bool (decide (c.b ≥ (-1099511627776)))] |>.r [(.bin .geq (cT 2) (cI (-1099511627776)), (vt 7))] |>.m 6 true (decide_eq_true h4); iteE h (fun h5 h => have H := H.t 9 [.bool (decide (c.b ≤ 1099511627776))] |>.r [(.bin .leq (cT 2) (cI 1099511627776), (vt 8))] |>.m 7 true (decide_eq_true h5); H.e [] h) (fun h5 h => have H := H.m 7 false (decide_eq_false h5); H.e [] h)) (fun h4 h => have H := H.m 6 false (decide_eq_false h4); H.e [] h)) (fun h3 h => have H := H.m 5 false (decide_eq_false h3); H.e [] h)) (fun _ h => iteE h (fun h3 h => have H := H.t 6 [.bool (decide (c.a ≥ 0))] |>.r [(.bin .geq (cT 1) (cI 0), (vt 5))] |>.c (p := (.iaA 10 7 (.c (.ptr 2 0)) (cT 0), (.ptr 2 7))) (fun _ _ _ => fIaP (j := 1) (k := .i64) (n := c.no) (by kernel_rfl) h3 (by decide)); iteE h (fun h4 h => have H := H.t 7 [.bool (decide (c.a < 8))] |>.r [(.bin .lss (cT 1) (cI 8), (vt 6))] |>.m 5 true (decide_eq_true h4); iteE h (fun h5 h => have H := H.m 6 true (decide_eq_true h5); H.e [] h) (fun h5 h => have H := H.m 6 false (decide_eq_false h5); H.e [] h)) (fun h4 h => have H := H.m 5 false (decide_eq_false h4); H.e [] h)) (fun _ h => iteE h (fun h4 h => have H := H.t 6 [.bool (decide (c.a ≥ 0))] |>.r [(.bin .geq (cT 1) (cI 0), (vt 5))] |>.c (p := (.iaA 10 7 (.c (.ptr 2 0)) (cT 0), (.ptr 2 14))) (fun _ _ _ => fIaP (j := 2) (k := .i64) (n := c.no) (by kernel_rfl) h4 (by decide)); iteE h (fun h5 h => have H := H.t 7 [.bool (decide (c.a < 8))] |>.r [(.bin .lss (cT 1) (cI 8), (vt 6))] |>.m 5 true (decide_eq_true h5); iteE h (fun h6 h => have H := H.m 6 true (decide_eq_true h6); H.e [] h) (fun h6 h => have H := H.m 6 false (decide_eq_false h6); H.e [] h)) (fun h5 h => have H := H.m 5 false (decide_eq_false h5); H.e [] h)) (fun _ h => iteE h (fun h5 h => have H := H.t 6 [.bool (decide (c.a ≥ 0))] |>.r [(.bin .geq (cT 1) (cI 0), (vt 5))] |>.c (p := (.iaA 10 7 (.c (.ptr 2 0)) (cT 0), (.ptr 2 21))) (fun _ _ _ => fIaP (j := 3) (k := .i64) (n := c.no) (by kernel_rfl) h5 (by decide)); iteE h (fun h6 h => have H := H.t 7 [.bool (decide (c.a < 65536))] |>.r [(.bin .lss (cT 1) (cI 65536), (vt 6))] |>.m 5 true (decide_eq_true h6); iteE h (fun h7 h => have H := H.t 8 [.bool (decide (c.b ≥ (-1099511627776)))] |>.r [(.bin .geq (cT 2) (cI (-1099511627776)), (vt 7))] |>.m 6 true (decide_eq_true h7); iteE h (fun h8 h => have H := H.t 9 [.bool (decide (c.b ≤ 1099511627776))] |>.r [(.bin .leq (cT 2) (cI 1099511627776), (vt 8))] |>.m 7 true (decide_eq_true h8); H.e [] h) (fun h8 h => have H := H.m 7 false (decide_eq_false h8); H.e [] h)) (fun h7 h => have H := H.m 6 false (decide_eq_false h7); H.e [] h)) (fun h6 h => have H := H.m 5 false (decide_eq_false h6); H.e [] h)) (fun _ h => iteE h (fun h6 h => have H := H.t 6 [.bool (decide (c.a ≥ 0))] |>.r [(.bin .geq (cT 1) (cI 0), (vt 5))] |>.c (p := (.iaA 10 7 (.c (.ptr 2 0)) (cT 0), (.ptr 2 28))) (fun _ _ _ => fIaP (j := 4) (k := .i64) (n := c.no) (by kernel_rfl) h6 (by decide)); iteE h (fun h7 h => have H := H.t 7 [.bool (decide (c.a < 65536))] |>.r [(.bin .lss (cT 1) (cI 65536), (vt 6))] |>.m 5 true (decide_eq_true h7); iteE h (fun h8 h => have H := H.m 6 true (decide_eq_true h8); H.e [] h) (fun h8 h => have H := H.m 6 false (decide_eq_false h8); H.e [] h)) (fun h7 h => have H := H.m 5 false (decide_eq_false h7); H.e [] h)) (fun _ h => iteE h (fun h7 h => have H := H.t 6 [.bool (decide (c.a ≥ 0))] |>.r [(.bin .geq (cT 1) (cI 0), (vt 5))] |>.c (p := (.iaA 10 7 (.c (.ptr 2 0)) (cT 0), (.ptr 2 35))) (fun _ _ _ => fIaP (j := 5) (k := .i64) (n := c.no) (by kernel_rfl) h7 (by decide)); iteE h (fun h8 h => have H := H.t 7 [.bool (decide (c.a < 65536))] |>.r [(.bin .lss (cT 1) (cI 65536), (vt 6))] |>.m 5 true (decide_eq_true h8); iteE h (fun h9 h => have H := H.m 6 true (decide_eq_true h9); H.e [] h) (fun h9 h => have H := H.m 6 false (decide_eq_false h9); H.e [] h)) (fun h8 h => have H := H.m 5 false (decide_eq_false h8); H.e [] h)) (fun _ h => iteE h (fun h8 h => have H := H.t 6 [.bool (decide (c.a ≥ 0))] |>.r [(.bin .geq (cT 1) (cI 0), (vt 5))] |>.c (p := (.iaA 10 7 (.c (.ptr 2 0)) (cT 0), (.ptr 2 42))) (fun _ _ _ => fIaP (j := 6) (k := .i64) (n := c.no) (by kernel_rfl) h8 (by decide)); iteE h (fun h9 h => have H := H.t 7 [.bool (decide (c.a < 16))] |>.r [(.bin .lss (cT 1) (cI 16), (vt 6))] |>.m 5 true (decide_eq_true h9); iteE h (fun h10 h => have H := H.m 6 true (decide_eq_true h10); H.e [] h) (fun h10 h => have H := H.m 6 false (decide_eq_false h10); H.e [] h)) (fun h9 h => have H := H.m 5 false (decide_eq_false h9); H.e [] h)) (fun _ h => iteE h (fun h9 h => have H := H.t 6 [.bool (decide (c.a ≥ 0))] |>.r [(.bin .geq (cT 1) (cI 0), (vt 5))] |>.c (p := (.iaA 10 7 (.c (.ptr 2 0)) (cT 0), (.ptr 2 49))) (fun _ _ _ => fIaP (j := 7) (k := .i64) (n := c.no) (by kernel_rfl) h9 (by decide)); iteE h (fun h10 h => have H := H.t 7 [.bool (decide (c.a < 16))] |>.r [(.bin .lss (cT 1) (cI 16), (vt 6))] |>.m 5 true (decide_eq_true h10); iteE h (fun h11 h => have H := H.m 6 true (decide_eq_true h11); H.e [] h) (fun h11 h => have H := H.m 6 false (decide_eq_false h11); H.e [] h)) (fun h10 h => have H := H.m 5 false (decide_eq_false h10); H.e [] h)) (fun _ h => iteE h (fun h10 h => have H := H.t 6 [.bool (decide (c.a ≥ 0))] |>.r [(.bin .geq (cT 1) (cI 0), (vt 5))] |>.c (p := (.iaA 10 7 (.c (.ptr 2 0)) (cT 0), (.ptr 2 56))) (fun _ _ _ => fIaP (j := 8) (k := .i64) (n := c.no) (by kernel_rfl) h10 (by decide)); iteE h (fun h11 h => have H := H.t 7 [.bool (decide (c.a < 16))] |>.r [(.bin .lss (cT 1) (cI 16), (vt 6))] |>.m 5 true (decide_eq_true h11); iteE h (fun h12 h => have H := H.m 6 true (decide_eq_true h12); H.e [] h) (fun h12 h => have H := H.m 6 false (decide_eq_false h12); H.e [] h)) (fun h11 h => have H := H.m 5 false (decide_eq_false h11); H.e [] h)) (fun _ h => reqE h (fun h11 h => have H := H.c (p := (.iaA 10 7 (.c (.ptr 2 0)) (cT 0), (.ptr 2 63))) (fun _ _ _ => fIaP (j := 9) (k := .i64) (n := c.no) (by kernel_rfl) h11 (by decide)); H.e [] h)))))))))))))

end Go.Proofs.Hz
open Go Go.Proofs
namespace Go.Proofs.Hz
theorem may_iff (c : Cl) : (mayF c = true) ↔ (¬ ((c.no = 0 ∨ c.no = 3) ∧ (c.b < -1099511627776 ∨ c.b > 1099511627776)) ∧ ((0 ≤ c.no ∧ c.no ≤ 2 ∧ 0 ≤ c.a ∧ c.a ≤ 7) ∨ (3 ≤ c.no ∧ c.no ≤ 5 ∧ 0 ≤ c.a ∧ c.a ≤ 65535) ∨ (6 ≤ c.no ∧ c.no ≤ 8 ∧ 0 ≤ c.a ∧ c.a ≤ 15) ∨ c.no = 9)) := by
  unfold mayF
  (repeat' split) <;> simp only [decide_eq_true_eq, Bool.false_eq_true, false_iff] <;> omega
theorem kd_cases (n : Int) : n = 0 ∨ n = 1 ∨ n = 2 ∨ n = 3 ∨ n = 4 ∨ n = 5 ∨ n = 6 ∨ n = 7 ∨ n = 8 ∨ n = 9 ∨ (n < 0 ∨ 10 ≤ n) := by omega
theorem kd_none {n : Int} (h : n < 0 ∨ 10 ≤ n) : kdOf n = ⟨[], 0, 0, false, 0, 0, 0⟩ := by
  unfold kdOf
  rw [if_neg (by omega), if_neg (by omega), if_neg (by omega), if_neg (by omega), if_neg (by omega), if_neg (by omega), if_neg (by omega), if_neg (by omega), if_neg (by omega), if_neg (by omega)]
theorem f43_eq (c : Cl) : f43 c = some (.tup [(ofF c).1.av, .bool (ofF c).2]) := by
  have leaf : ∀ {X : AV} {b : Bool}, (mayF c = true ↔ b = true) → some (AV.tup [X, .bool b]) = some (.tup [X, .bool (mayF c)]) := fun h => by rw [Bool.eq_iff_iff.2 h]
  have e := may_iff c
  have last : c.no < 0 ∨ 10 ≤ c.no → mayF c = false := fun h => by
    cases hh : mayF c with
    | false => rfl
    | true => have := e.1 hh; omega
  rcases kd_cases c.no with h | h | h | h | h | h | h | h | h | h | h
  case inr.inr.inr.inr.inr.inr.inr.inr.inr.inr =>
    have hk := kd_none h
    have hl := last h
    unfold f43 ofF
    rw [hk, hl]
    by_cases h0 : c.no < 0
    · rw [if_pos h0]; rfl
    · rw [if_neg h0, if_pos (by omega)]; rfl
  all_goals
    unfold f43
    simp only [ofF, kdOf, Kd.av, h, Int.reduceLT, Int.reduceGE, Int.reduceEq, ge_iff_le, if_true, if_false, reduceCtorEq, Int.reduceLE]
    (repeat' split) <;> refine leaf ?_ <;> rw [e] <;> simp only [decide_eq_true_eq, Bool.false_eq_true, iff_false, iff_true] <;> omega
theorem portF_ok (no : Int) : Spec FF 23 [.int .i64 no] (.bool (portF no)) := f23_ok no (by unfold f23 portF; by_cases h : no ≥ 0 <;> simp [h] <;> omega)
theorem nameF_ok (no : Int) : Spec FF 24 [.int .i64 no] (.bool (nameF no)) := f24_ok no (by unfold f24 nameF; by_cases h : no ≥ 3 <;> simp [h] <;> omega)
theorem eventF_ok (no : Int) : Spec FF 25 [.int .i64 no] (.bool (eventF no)) := f25_ok no (by unfold f25 eventF; by_cases h : no ≥ 6 <;> simp [h] <;> omega)
theorem groupF_ok (c : Cl) : Spec FF 20 [c.av] (.int .i64 (groupF c)) := f20_ok c (by unfold f20 groupF; split <;> (try split) <;> (try split) <;> simp)
theorem of_ok (c : Cl) {y : Kd × Bool} (h : y = ofF c) : Spec FF 43 [c.av] (.tup [y.1.av, .bool y.2]) := by subst h; exact f43_ok c (f43_eq c)
end Go.Proofs.Hz
open Go Go.Proofs
namespace Go.Proofs.Hz
def f12 (c : Cl) : Option AV :=
  if c.no = 0 then
    if c.b < (-1099511627776) then
      some (.bool false)
    else
      if c.b > 1099511627776 then
        some (.bool false)
      else
        if (portF c.no) = true then
          if c.a ≥ 0 then
            some (.bool (decide (c.a ≤ 7)))
          else
            some (.bool false)
        else
          if (nameF c.no) = true then
            if c.a ≥ 0 then
              some (.bool (decide (c.a ≤ 65535)))
            else
              some (.bool false)
          else
            if (eventF c.no) = true then
              if c.a ≥ 0 then
                some (.bool (decide (c.a ≤ 15)))
              else
                some (.bool false)
            else
              some (.bool (decide (c.no = 9)))
  else
    if c.no = 3 then
      if c.b < (-1099511627776) then
        some (.bool false)
      else
        if c.b > 1099511627776 then
          some (.bool false)
        else
          if (portF c.no) = true then
            if c.a ≥ 0 then
              some (.bool (decide (c.a ≤ 7)))
            else
              some (.bool false)
          else
            if (nameF c.no) = true then
              if c.a ≥ 0 then
                some (.bool (decide (c.a ≤ 65535)))
              else
                some (.bool false)
            else
              if (eventF c.no) = true then
                if c.a ≥ 0 then
                  some (.bool (decide (c.a ≤ 15)))
                else
                  some (.bool false)
              else
                some (.bool (decide (c.no = 9)))
    else
      if (portF c.no) = true then
        if c.a ≥ 0 then
          some (.bool (decide (c.a ≤ 7)))
        else
          some (.bool false)
      else
        if (nameF c.no) = true then
          if c.a ≥ 0 then
            some (.bool (decide (c.a ≤ 65535)))
          else
            some (.bool false)
        else
          if (eventF c.no) = true then
            if c.a ≥ 0 then
              some (.bool (decide (c.a ≤ 15)))
            else
              some (.bool false)
          else
            some (.bool (decide (c.no = 9)))
def f12W : List AV := [(.agg [(vt 0), (vt 1), (vt 2)])]
def f12V (c : Cl) (σ : Nat → Nat) : Val := (valL ([.int .i64 c.no, .int .i64 c.a, .int .i64 c.b]) ([]) [] σ 0)
def f12X (c : Cl) (_σ : Nat → Nat) : List AV := [(.agg [(.int .i64 c.no), (.int .i64 c.a), (.int .i64 c.b)])]
def f12Y (_c : Cl) (_σ : Nat → Nat) : List Blk := []
theorem f12E (c : Cl) (σ : Nat → Nat) : f12W.map (gm (f12V c σ)) = f12X c σ := by kernel_rfl
theorem f12G (c : Cl) (σ : Nat → Nat) : ([] : List Blk).map (gB (f12V c σ)) = f12Y c σ := by kernel_rfl
set_option maxHeartbeats 10000000 in
theorem f12_ok (c : Cl) {r0 : AV} (h : f12 c = some r0) : Spec FF 12 [(.agg [(.int .i64 c.no), (.int .i64 c.a), (.int .i64 c.b)])] r0 := by
  unfold f12 at h
  have hσ : ∀ i j : Nat, (fun i : Nat => i) i = (fun i : Nat => i) j → i = j := fun _ _ e => e
  exact spec_begin (ρ := f12V c (fun i => i)) (xs := f12W) (by kernel_rfl) rfl rfl (by kernel_rfl) (fun z0 S => have H := Tok.start hσ S 0 3 0 0 ([.int .i64 c.no, .int .i64 c.a, .int .i64 c.b]) ([]) [] (.n) .n (f12E c _) (f12G c _); have H := H.t 4 [.bool (decide (c.no = 0))] |>.r [(.bin .eql (cT 0) (cI 0), (vt 3))]; iteE h (fun h0 h => have H := H.t 5 [.bool (decide (c.b < (-1099511627776)))] |>.r [(.bin .lss (cT 2) (cI (-1099511627776)), (vt 4))] |>.m 3 true (decide_eq_true h0); iteE h (fun h1 h => have H := H.m 4 true (decide_eq_true h1); H.e [] h) (fun h1 h => have H := H.t 6 [.bool (decide (c.b > 1099511627776))] |>.r [(.bin .gtr (cT 2) (cI 1099511627776), (vt 5))] |>.m 4 false (decide_eq_false h1); iteE h (fun h2 h => have H := H.m 5 true (decide_eq_true h2); H.e [] h) (fun h2 h => have H := H.t 7 [.bool (portF c.no)] |>.m 5 false (decide_eq_false h2) |>.s [(vt 0)] (vt 6) (portF_ok c.no); iteE h (fun h3 h => have H := H.t 8 [.bool (decide (c.a ≥ 0))] |>.r [(.bin .geq (cT 1) (cI 0), (vt 7))] |>.m 6 true h3; iteE h (fun h4 h => have H := H.t 9 [.bool (decide (c.a ≤ 7))] |>.r [(.bin .leq (cT 1) (cI 7), (vt 8))] |>.m 7 true (decide_eq_true h4); H.e [] h) (fun h4 h => have H := H.m 7 false (decide_eq_false h4); H.e [] h)) (fun h3 h => have H := H.t 8 [.bool (nameF c.no)] |>.m 6 false (bF h3) |>.s [(vt 0)] (vt 7) (nameF_ok c.no); iteE h (fun h4 h => have H := H.t 9 [.bool (decide (c.a ≥ 0))] |>.r [(.bin .geq (cT 1) (cI 0), (vt 8))] |>.m 7 true h4; iteE h (fun h5 h => have H := H.t 10 [.bool (decide (c.a ≤ 65535))] |>.r [(.bin .leq (cT 1) (cI 65535), (vt 9))] |>.m 8 true (decide_eq_true h5); H.e [] h) (fun h5 h => have H := H.m 8 false (decide_eq_false h5); H.e [] h)) (fun h4 h => have H := H.t 9 [.bool (eventF c.no)] |>.m 7 false (bF h4) |>.s [(vt 0)] (vt 8) (eventF_ok c.no); iteE h (fun h5 h => have H := H.t 10 [.bool (decide (c.a ≥ 0))] |>.r [(.bin .geq (cT 1) (cI 0), (vt 9))] |>.m 8 true h5; iteE h (fun h6 h => have H := H.t 11 [.bool (decide (c.a ≤ 15))] |>.r [(.bin .leq (cT 1) (cI 15), (vt 10))] |>.m 9 true (decide_eq_true h6); H.e [] h) (fun h6 h => have H := H.m 9 false (decide_eq_false h6); H.e [] h)) (fun h5 h => have H := H.t 10 [.bool (decide (c.no = 9))] |>.r [(.bin .eql (cT 0) (cI 9), (vt 9))] |>.m 8 false (bF h5); H.e [] h)))))) (fun h0 h => have H := H.t 5 [.bool (decide (c.no = 3))] |>.r [(.bin .eql (cT 0) (cI 3), (vt 4))] |>.m 3 false (decide_eq_false h0); iteE h (fun h1 h => have H := H.t 6 [.bool (decide (c.b < (-1099511627776)))] |>.r [(.bin .lss (cT 2) (cI (-1099511627776)), (vt 5))] |>.m 4 true (decide_eq_true h1); iteE h (fun h2 h => have H := H.m 5 true (decide_eq_true h2); H.e [] h) (fun h2 h => have H := H.t 7 [.bool (decide (c.b > 1099511627776))] |>.r [(.bin .gtr (cT 2) (cI 1099511627776), (vt 6))] |>.m 5 false (decide_eq_false h2); iteE h (fun h3 h => have H := H.m 6 true (decide_eq_true h3); H.e [] h) (fun h3 h => have H := H.t 8 [.bool (portF c.no)] |>.m 6 false (decide_eq_false h3) |>.s [(vt 0)] (vt 7) (portF_ok c.no); iteE h (fun h4 h => have H := H.t 9 [.bool (decide (c.a ≥ 0))] |>.r [(.bin .geq (cT 1) (cI 0), (vt 8))] |>.m 7 true h4; iteE h (fun h5 h => have H := H.t 10 [.bool (decide (c.a ≤ 7))] |>.r [(.bin .leq (cT 1) (cI 7), (vt 9))] |>.m 8 true (decide_eq_true h5); H.e [] h) (fun h5 h => have H := H.m 8 false (decide_eq_false h5); H.e [] h)) (fun h4 h => have H := H.t 9 [.bool (nameF c.no)] |>.m 7 false (bF h4) |>.s [(vt 0)] (vt 8) (nameF_ok c.no); iteE h (fun h5 h => have H := H.t 10 [.bool (decide (c.a ≥ 0))] |>.r [(.bin .geq (cT 1) (cI 0), (vt 9))] |>.m 8 true h5; iteE h (fun h6 h => have H := H.t 11 [.bool (decide (c.a ≤ 65535))] |>.r [(.bin .leq (cT 1) (cI 65535), (vt 10))] |>.m 9 true (decide_eq_true h6); H.e [] h) (fun h6 h => have H := H.m 9 false (decide_eq_false h6); H.e [] h)) (fun h5 h => have H := H.t 10 [.bool (eventF c.no)] |>.m 8 false (bF h5) |>.s [(vt 0)] (vt 9) (eventF_ok c.no); iteE h (fun h6 h => have H := H.t 11 [.bool (decide (c.a ≥ 0))] |>.r [(.bin .geq (cT 1) (cI 0), (vt 10))] |>.m 9 true h6; iteE h (fun h7 h => have H := H.t 12 [.bool (decide (c.a ≤ 15))] |>.r [(.bin .leq (cT 1) (cI 15), (vt 11))] |>.m 10 true (decide_eq_true h7); H.e [] h) (fun h7 h => have H := H.m 10 false (decide_eq_false h7); H.e [] h)) (fun h6 h => have H := H.t 11 [.bool (decide (c.no = 9))] |>.r [(.bin .eql (cT 0) (cI 9), (vt 10))] |>.m 9 false (bF h6); H.e [] h)))))) (fun h1 h => have H := H.t 6 [.bool (portF c.no)] |>.m 4 false (decide_eq_false h1) |>.s [(vt 0)] (vt 5) (portF_ok c.no); iteE h (fun h2 h => have H := H.t 7 [.bool (decide (c.a ≥ 0))] |>.r [(.bin .geq (cT 1) (cI 0), (vt 6))] |>.m 5 true h2; iteE h (fun h3 h => have H := H.t 8 [.bool (decide (c.a ≤ 7))] |>.r [(.bin .leq (cT 1) (cI 7), (vt 7))] |>.m 6 true (decide_eq_true h3); H.e [] h) (fun h3 h => have H := H.m 6 false (decide_eq_false h3); H.e [] h)) (fun h2 h => have H := H.t 7 [.bool (nameF c.no)] |>.m 5 false (bF h2) |>.s [(vt 0)] (vt 6) (nameF_ok c.no); iteE h (fun h3 h => have H := H.t 8 [.bool (decide (c.a ≥ 0))] |>.r [(.bin .geq (cT 1) (cI 0), (vt 7))] |>.m 6 true h3; iteE h (fun h4 h => have H := H.t 9 [.bool (decide (c.a ≤ 65535))] |>.r [(.bin .leq (cT 1) (cI 65535), (vt 8))] |>.m 7 true (decide_eq_true h4); H.e [] h) (fun h4 h => have H := H.m 7 false (decide_eq_false h4); H.e [] h)) (fun h3 h => have H := H.t 8 [.bool (eventF c.no)] |>.m 6 false (bF h3) |>.s [(vt 0)] (vt 7) (eventF_ok c.no); iteE h (fun h4 h => have H := H.t 9 [.bool (decide (c.a ≥ 0))] |>.r [(.bin .geq (cT 1) (cI 0), (vt 8))] |>.m 7 true h4; iteE h (fun h5 h => have H := H.t 10 [.bool (decide (c.a ≤ 15))] |>.r [(.bin .leq (cT 1) (cI 15), (vt 9))] |>.m 8 true (decide_eq_true h5); H.e [] h) (fun h5 h => have H := H.m 8 false (decide_eq_false h5); H.e [] h)) (fun h4 h => have H := H.t 9 [.bool (decide (c.no = 9))] |>.r [(.bin .eql (cT 0) (cI 9), (vt 8))] |>.m 7 false (bF h4); H.e [] h))))))

def f14 (c : Cl) (e : Int) : Option AV :=
  if c.no = 0 then
    if e = 0 then
      some (.int .i64 1)
    else
      if (eventF c.no) = true then
        some (.int .i64 0)
      else
        some (.int .i64 0)
  else
    if c.no = 1 then
      if e = 0 then
        some (.int .i64 2)
      else
        if (eventF c.no) = true then
          some (.int .i64 0)
        else
          some (.int .i64 0)
    else
      if c.no = 2 then
        if e = 0 then
          some (.int .i64 2)
        else
          if e = 3 then
            some (.int .i64 3)
          else
            if (eventF c.no) = true then
              some (.int .i64 0)
            else
              some (.int .i64 0)
      else
        if c.no = 3 then
          if e = 0 then
            some (.int .i64 4)
          else
            if e = 4 then
              some (.int .i64 5)
            else
              if (eventF c.no) = true then
                some (.int .i64 0)
              else
                some (.int .i64 0)
        else
          if c.no = 4 then
            if e = 0 then
              some (.int .i64 8)
            else
              if e = 3 then
                some (.int .i64 7)
              else
                if (eventF c.no) = true then
                  some (.int .i64 0)
                else
                  some (.int .i64 0)
          else
            if c.no = 5 then
              if e = 3 then
                some (.int .i64 7)
              else
                if e = 0 then
                  some (.int .i64 6)
                else
                  if (eventF c.no) = true then
                    some (.int .i64 0)
                  else
                    some (.int .i64 0)
            else
              if (eventF c.no) = true then
                if e = 0 then
                  some (.int .i64 (w64 (4 + c.no)))
                else
                  some (.int .i64 0)
              else
                some (.int .i64 0)
def f14W : List AV := [(.agg [(vt 0), (vt 1), (vt 2)]), (vt 3)]
def f14V (c : Cl) (e : Int) (σ : Nat → Nat) : Val := (valL ([.int .i64 c.no, .int .i64 c.a, .int .i64 c.b, .int .i64 e]) ([]) [] σ 0)
def f14X (c : Cl) (e : Int) (_σ : Nat → Nat) : List AV := [(.agg [(.int .i64 c.no), (.int .i64 c.a), (.int .i64 c.b)]), (.int .i64 e)]
def f14Y (_c : Cl) (_e : Int) (_σ : Nat → Nat) : List Blk := []
theorem f14E (c : Cl) (e : Int) (σ : Nat → Nat) : f14W.map (gm (f14V c e σ)) = f14X c e σ := by kernel_rfl
theorem f14G (c : Cl) (e : Int) (σ : Nat → Nat) : ([] : List Blk).map (gB (f14V c e σ)) = f14Y c e σ := by kernel_rfl
set_option maxHeartbeats 10000000 in
theorem f14_ok (c : Cl) (e : Int) {r0 : AV} (h : f14 c e = some r0) : Spec FF 14 [(.agg [(.int .i64 c.no), (.int .i64 c.a), (.int .i64 c.b)]), (.int .i64 e)] r0 := by
  unfold f14 at h
  have hσ : ∀ i j : Nat, (fun i : Nat => i) i = (fun i : Nat => i) j → i = j := fun _ _ e => e
  exact spec_begin (ρ := f14V c e (fun i => i)) (xs := f14W) (by kernel_rfl) rfl rfl (by kernel_rfl) (fun z0 S => have H := Tok.start hσ S 0 4 0 0 ([.int .i64 c.no, .int .i64 c.a, .int .i64 c.b, .int .i64 e]) ([]) [] (.n) .n (f14E c e _) (f14G c e _); have H := H.t 6 [.bool (decide (e = 3)), .bool (decide (c.no = 0))] |>.r [(.bin .eql (cT 3) (cI 3), (vt 4)), (.bin .eql (cT 0) (cI 0), (vt 5))]; iteE h (fun h0 h => have H := H.t 7 [.bool (decide (e = 0))] |>.r [(.bin .eql (cT 3) (cI 0), (vt 6))] |>.m 5 true (decide_eq_true h0); iteE h (fun h1 h => have H := H.m 6 true (decide_eq_true h1); H.e [] h) (fun h1 h => have H := H.t 13 [.bool (decide (c.no = 1)), .bool (decide (c.no = 2)), .bool (decide (c.no = 3)), .bool (decide (c.no = 4)), .bool (decide (c.no = 5)), .bool (eventF c.no)] |>.r [(.bin .eql (cT 0) (cI 1), (vt 7)), (.bin .eql (cT 0) (cI 2), (vt 8)), (.bin .eql (cT 0) (cI 3), (vt 9)), (.bin .eql (cT 0) (cI 4), (vt 10)), (.bin .eql (cT 0) (cI 5), (vt 11))] |>.m 6 false (decide_eq_false h1) |>.m 7 false (b := (decide (c.no = 1))) (decide_eq_false (by omega)) |>.m 8 false (b := (decide (c.no = 2))) (decide_eq_false (by omega)) |>.m 9 false (b := (decide (c.no = 3))) (decide_eq_false (by omega)) |>.m 10 false (b := (decide (c.no = 4))) (decide_eq_false (by omega)) |>.m 11 false (b := (decide (c.no = 5))) (decide_eq_false (by omega)) |>.s [(vt 0)] (vt 12) (eventF_ok c.no); iteE h (fun h2 h => have H := H.m 12 true h2; H.e [] h) (fun h2 h => have H := H.m 12 false (bF h2); H.e [] h))) (fun h0 h => have H := H.t 7 [.bool (decide (c.no = 1))] |>.r [(.bin .eql (cT 0) (cI 1), (vt 6))] |>.m 5 false (decide_eq_false h0); iteE h (fun h1 h => have H := H.t 8 [.bool (decide (e = 0))] |>.r [(.bin .eql (cT 3) (cI 0), (vt 7))] |>.m 6 true (decide_eq_true h1); iteE h (fun h2 h => have H := H.m 7 true (decide_eq_true h2); H.e [] h) (fun h2 h => have H := H.t 13 [.bool (decide (c.no = 2)), .bool (decide (c.no = 3)), .bool (decide (c.no = 4)), .bool (decide (c.no = 5)), .bool (eventF c.no)] |>.r [(.bin .eql (cT 0) (cI 2), (vt 8)), (.bin .eql (cT 0) (cI 3), (vt 9)), (.bin .eql (cT 0) (cI 4), (vt 10)), (.bin .eql (cT 0) (cI 5), (vt 11))] |>.m 7 false (decide_eq_false h2) |>.m 8 false (b := (decide (c.no = 2))) (decide_eq_false (by omega)) |>.m 9 false (b := (decide (c.no = 3))) (decide_eq_false (by omega)) |>.m 10 false (b := (decide (c.no = 4))) (decide_eq_false (by omega)) |>.m 11 false (b := (decide (c.no = 5))) (decide_eq_false (by omega)) |>.s [(vt 0)] (vt 12) (eventF_ok c.no); iteE h (fun h3 h => have H := H.m 12 true h3; H.e [] h) (fun h3 h => have H := H.m 12 false (bF h3); H.e [] h))) (fun h1 h => have H := H.t 8 [.bool (decide (c.no = 2))] |>.r [(.bin .eql (cT 0) (cI 2), (vt 7))] |>.m 6 false (decide_eq_false h1); iteE h (fun h2 h => have H := H.t 9 [.bool (decide (e = 0))] |>.r [(.bin .eql (cT 3) (cI 0), (vt 8))] |>.m 7 true (decide_eq_true h2); iteE h (fun h3 h => have H := H.m 8 true (decide_eq_true h3); H.e [] h) (fun h3 h => have H := H.m 8 false (decide_eq_false h3); iteE h (fun h4 h => have H := H.m 4 true (decide_eq_true h4); H.e [] h) (fun h4 h => have H := H.t 13 [.bool (decide (c.no = 3)), .bool (decide (c.no = 4)), .bool (decide (c.no = 5)), .bool (eventF c.no)] |>.r [(.bin .eql (cT 0) (cI 3), (vt 9)), (.bin .eql (cT 0) (cI 4), (vt 10)), (.bin .eql (cT 0) (cI 5), (vt 11))] |>.m 4 false (decide_eq_false h4) |>.m 9 false (b := (decide (c.no = 3))) (decide_eq_false (by omega)) |>.m 10 false (b := (decide (c.no = 4))) (decide_eq_false (by omega)) |>.m 11 false (b := (decide (c.no = 5))) (decide_eq_false (by omega)) |>.s [(vt 0)] (vt 12) (eventF_ok c.no); iteE h (fun h5 h => have H := H.m 12 true h5; H.e [] h) (fun h5 h => have H := H.m 12 false (bF h5); H.e [] h)))) (fun h2 h => have H := H.t 9 [.bool (decide (c.no = 3))] |>.r [(.bin .eql (cT 0) (cI 3), (vt 8))] |>.m 7 false (decide_eq_false h2); iteE h (fun h3 h => have H := H.t 10 [.bool (decide (e = 0))] |>.r [(.bin .eql (cT 3) (cI 0), (vt 9))] |>.m 8 true (decide_eq_true h3); iteE h (fun h4 h => have H := H.m 9 true (decide_eq_true h4); H.e [] h) (fun h4 h => have H := H.t 11 [.bool (decide (e = 4))] |>.r [(.bin .eql (cT 3) (cI 4), (vt 10))] |>.m 9 false (decide_eq_false h4); iteE h (fun h5 h => have H := H.m 10 true (decide_eq_true h5); H.e [] h) (fun h5 h => have H := H.t 14 [.bool (decide (c.no = 4)), .bool (decide (c.no = 5)), .bool (eventF c.no)] |>.r [(.bin .eql (cT 0) (cI 4), (vt 11)), (.bin .eql (cT 0) (cI 5), (vt 12))] |>.m 10 false (decide_eq_false h5) |>.m 11 false (b := (decide (c.no = 4))) (decide_eq_false (by omega)) |>.m 12 false (b := (decide (c.no = 5))) (decide_eq_false (by omega)) |>.s [(vt 0)] (vt 13) (eventF_ok c.no); iteE h (fun h6 h => have H := H.m 13 true h6; H.e [] h) (fun h6 h => have H := H.m 13 false (bF h6); H.e [] h)))) (fun h3 h => have H := H.t 10 [.bool (decide (c.no = 4))] |>.r [(.bin .eql (cT 0) (cI 4), (vt 9))] |>.m 8 false (decide_eq_false h3); iteE h (fun h4 h => have H := H.t 11 [.bool (decide (e = 0))] |>.r [(.bin .eql (cT 3) (cI 0), (vt 10))] |>.m 9 true (decide_eq_true h4); iteE h (fun h5 h => have H := H.m 10 true (decide_eq_true h5); H.e [] h) (fun h5 h => have H := H.m 10 false (decide_eq_false h5); iteE h (fun h6 h => have H := H.m 4 true (decide_eq_true h6); H.e [] h) (fun h6 h => have H := H.t 13 [.bool (decide (c.no = 5)), .bool (eventF c.no)] |>.r [(.bin .eql (cT 0) (cI 5), (vt 11))] |>.m 4 false (decide_eq_false h6) |>.m 11 false (b := (decide (c.no = 5))) (decide_eq_false (by omega)) |>.s [(vt 0)] (vt 12) (eventF_ok c.no); iteE h (fun h7 h => have H := H.m 12 true h7; H.e [] h) (fun h7 h => have H := H.m 12 false (bF h7); H.e [] h)))) (fun h4 h => have H := H.t 11 [.bool (decide (c.no = 5))] |>.r [(.bin .eql (cT 0) (cI 5), (vt 10))] |>.m 9 false (decide_eq_false h4); iteE h (fun h5 h => have H := H.m 10 true (decide_eq_true h5); iteE h (fun h6 h => have H := H.m 4 true (decide_eq_true h6); H.e [] h) (fun h6 h => have H := H.t 12 [.bool (decide (e = 0))] |>.r [(.bin .eql (cT 3) (cI 0), (vt 11))] |>.m 4 false (decide_eq_false h6); iteE h (fun h7 h => have H := H.m 11 true (decide_eq_true h7); H.e [] h) (fun h7 h => have H := H.t 13 [.bool (eventF c.no)] |>.m 11 false (decide_eq_false h7) |>.s [(vt 0)] (vt 12) (eventF_ok c.no); iteE h (fun h8 h => have H := H.m 12 true h8; H.e [] h) (fun h8 h => have H := H.m 12 false (bF h8); H.e [] h)))) (fun h5 h => have H := H.t 12 [.bool (eventF c.no)] |>.m 10 false (decide_eq_false h5) |>.s [(vt 0)] (vt 11) (eventF_ok c.no); iteE h (fun h6 h => have H := H.t 13 [.bool (decide (e = 0))] |>.r [(.bin .eql (cT 3) (cI 0), (vt 12))] |>.m 11 true h6; iteE h (fun h7 h => have H := H.t 14 [.int .i64 (w64 (4 + c.no))] |>.r [(.bin .add (cI 4) (cT 0), (vt 13))] |>.m 12 true (decide_eq_true h7); H.e [] h) (fun h7 h => have H := H.m 12 false (decide_eq_false h7); H.e [] h)) (fun h6 h => have H := H.m 11 false (bF h6); H.e [] h))))))))

def f38 (c : Cl) (e : Int) : Option AV :=
  letB (ofF c) fun x0 =>
  if e = 0 then
    some (.int .i64 x0.1.well)
  else
    if e = 3 then
      some (.int .i64 x0.1.none)
    else
      if e = 4 then
        some (.int .i64 x0.1.had)
      else
        some (.int .i64 0)
def f38W : List AV := [(.agg [(vt 0), (vt 1), (vt 2)]), (vt 3)]
def f38V (c : Cl) (e : Int) (σ : Nat → Nat) : Val := (valL ([.int .i64 c.no, .int .i64 c.a, .int .i64 c.b, .int .i64 e]) ([]) [] σ 0)
def f38X (c : Cl) (e : Int) (_σ : Nat → Nat) : List AV := [(.agg [(.int .i64 c.no), (.int .i64 c.a), (.int .i64 c.b)]), (.int .i64 e)]
def f38Y (_c : Cl) (_e : Int) (_σ : Nat → Nat) : List Blk := []
theorem f38E (c : Cl) (e : Int) (σ : Nat → Nat) : f38W.map (gm (f38V c e σ)) = f38X c e σ := by kernel_rfl
theorem f38G (c : Cl) (e : Int) (σ : Nat → Nat) : ([] : List Blk).map (gB (f38V c e σ)) = f38Y c e σ := by kernel_rfl
theorem f38_ok (c : Cl) (e : Int) {r0 : AV} (h : f38 c e = some r0) : Spec FF 38 [(.agg [(.int .i64 c.no), (.int .i64 c.a), (.int .i64 c.b)]), (.int .i64 e)] r0 := by
  unfold f38 at h
  have hσ : ∀ i j : Nat, (fun i : Nat => i) i = (fun i : Nat => i) j → i = j := fun _ _ e => e
  exact spec_begin (ρ := f38V c e (fun i => i)) (xs := f38W) (by kernel_rfl) rfl rfl (by kernel_rfl) (fun z0 S => have H := Tok.start hσ S 0 4 0 0 ([.int .i64 c.no, .int .i64 c.a, .int .i64 c.b, .int .i64 e]) ([]) [] (.n) .n (f38E c e _) (f38G c e _); letE h (fun x0 h0 h => have H := H.t 13 [.str x0.1.w, .int .i64 x0.1.op, .int .i64 x0.1.most, .bool x0.1.value, .int .i64 x0.1.well, .int .i64 x0.1.none, .int .i64 x0.1.had, .bool x0.2, .bool (decide (e = 0))] |>.r [(.bin .eql (cT 3) (cI 0), (vt 12))] |>.s [(.agg [(vt 0), (vt 1), (vt 2)])] (.tup [(.agg (vT 4 7)), (vt 11)]) (of_ok c h0); iteE h (fun h1 h => have H := H.m 12 true (decide_eq_true h1); H.e [] h) (fun h1 h => have H := H.t 14 [.bool (decide (e = 3))] |>.r [(.bin .eql (cT 3) (cI 3), (vt 13))] |>.m 12 false (decide_eq_false h1); iteE h (fun h2 h => have H := H.m 13 true (decide_eq_true h2); H.e [] h) (fun h2 h => have H := H.t 15 [.bool (decide (e = 4))] |>.r [(.bin .eql (cT 3) (cI 4), (vt 14))] |>.m 13 false (decide_eq_false h2); iteE h (fun h3 h => have H := H.m 14 true (decide_eq_true h3); H.e [] h) (fun h3 h => have H := H.m 14 false (decide_eq_false h3); H.e [] h)))))

def f26 (c : Cl) (t : Int) (id : Int) : Option AV :=
  letB (ofF c) fun x0 =>
  if (!x0.2) = true then
    some (.tup [(.int .i64 0), (.agg [(.int .i64 0), (.int .i64 0), (.int .i64 0)]), (.int .i64 1)])
  else
    if c.no = 0 then
      some (.tup [(.int .i64 x0.1.op), (.agg [(.int .i64 c.a), (.int .i64 c.b), (.int .i64 id)]), (.int .i64 0)])
    else
      if c.no = 1 then
        some (.tup [(.int .i64 x0.1.op), (.agg [(.int .i64 c.a), (.int .i64 t), (.int .i64 0)]), (.int .i64 0)])
      else
        if c.no = 9 then
          some (.tup [(.int .i64 x0.1.op), (.agg [(.int .i64 t), (.int .i64 id), (.int .i64 0)]), (.int .i64 0)])
        else
          if x0.1.value = true then
            some (.tup [(.int .i64 x0.1.op), (.agg [(.int .i64 c.a), (.int .i64 c.b), (.int .i64 0)]), (.int .i64 0)])
          else
            some (.tup [(.int .i64 x0.1.op), (.agg [(.int .i64 c.a), (.int .i64 0), (.int .i64 0)]), (.int .i64 0)])
def f26W : List AV := [(.agg [(vt 0), (vt 1), (vt 2)]), (vt 3), (vt 4)]
def f26V (c : Cl) (t : Int) (id : Int) (σ : Nat → Nat) : Val := (valL ([.int .i64 c.no, .int .i64 c.a, .int .i64 c.b, .int .i64 t, .int .i64 id]) ([]) [] σ 0)
def f26X (c : Cl) (t : Int) (id : Int) (_σ : Nat → Nat) : List AV := [(.agg [(.int .i64 c.no), (.int .i64 c.a), (.int .i64 c.b)]), (.int .i64 t), (.int .i64 id)]
def f26Y (_c : Cl) (_t : Int) (_id : Int) (_σ : Nat → Nat) : List Blk := []
theorem f26E (c : Cl) (t : Int) (id : Int) (σ : Nat → Nat) : f26W.map (gm (f26V c t id σ)) = f26X c t id σ := by kernel_rfl
theorem f26G (c : Cl) (t : Int) (id : Int) (σ : Nat → Nat) : ([] : List Blk).map (gB (f26V c t id σ)) = f26Y c t id σ := by kernel_rfl
theorem f26_ok (c : Cl) (t : Int) (id : Int) {r0 : AV} (h : f26 c t id = some r0) : Spec FF 26 [(.agg [(.int .i64 c.no), (.int .i64 c.a), (.int .i64 c.b)]), (.int .i64 t), (.int .i64 id)] r0 := by
  unfold f26 at h
  have hσ : ∀ i j : Nat, (fun i : Nat => i) i = (fun i : Nat => i) j → i = j := fun _ _ e => e
  exact spec_begin (ρ := f26V c t id (fun i => i)) (xs := f26W) (by kernel_rfl) rfl rfl (by kernel_rfl) (fun z0 S => have H := Tok.start hσ S 0 5 0 0 ([.int .i64 c.no, .int .i64 c.a, .int .i64 c.b, .int .i64 t, .int .i64 id]) ([]) [] (.n) .n (f26E c t id _) (f26G c t id _); letE h (fun x0 h0 h => have H := H.t 14 [.str x0.1.w, .int .i64 x0.1.op, .int .i64 x0.1.most, .bool x0.1.value, .int .i64 x0.1.well, .int .i64 x0.1.none, .int .i64 x0.1.had, .bool x0.2, .bool (!x0.2)] |>.r [(.un .not (cT 12), (vt 13))] |>.s [(.agg [(vt 0), (vt 1), (vt 2)])] (.tup [(.agg (vT 5 7)), (vt 12)]) (of_ok c h0); iteE h (fun h1 h => have H := H.m 13 true h1; H.e [] h) (fun h1 h => have H := H.t 15 [.bool (decide (c.no = 0))] |>.r [(.bin .eql (cT 0) (cI 0), (vt 14))] |>.m 13 false (bF h1); iteE h (fun h2 h => have H := H.m 14 true (decide_eq_true h2); H.e [] h) (fun h2 h => have H := H.t 16 [.bool (decide (c.no = 1))] |>.r [(.bin .eql (cT 0) (cI 1), (vt 15))] |>.m 14 false (decide_eq_false h2); iteE h (fun h3 h => have H := H.m 15 true (decide_eq_true h3); H.e [] h) (fun h3 h => have H := H.t 17 [.bool (decide (c.no = 9))] |>.r [(.bin .eql (cT 0) (cI 9), (vt 16))] |>.m 15 false (decide_eq_false h3); iteE h (fun h4 h => have H := H.m 16 true (decide_eq_true h4); H.e [] h) (fun h4 h => have H := H.m 16 false (decide_eq_false h4); iteE h (fun h5 h => have H := H.m 8 true h5; H.e [] h) (fun h5 h => have H := H.m 8 false (bF h5); H.e [] h)))))))

end Go.Proofs.Hz
open Go Go.Proofs
namespace Go.Proofs.Hz
theorem bool_leaf {P : Prop} [Decidable P] {b : Bool} (h : b = true ↔ P) : some (AV.bool b) = some (AV.bool (decide P)) := by
  congr 2
  rw [Bool.eq_iff_iff, h, decide_eq_true_eq]
theorem f12_eq (c : Cl) : f12 c = some (.bool (mayF c)) := by
  have e1 : ∀ n, (portF n = true) = (0 ≤ n ∧ n ≤ 2) := fun n => by simp [portF]
  have e2 : ∀ n, (nameF n = true) = (3 ≤ n ∧ n ≤ 5) := fun n => by simp [nameF]
  have e3 : ∀ n, (eventF n = true) = (6 ≤ n ∧ n ≤ 8) := fun n => by simp [eventF]
  unfold f12 mayF
  simp only [e1, e2, e3]
  (repeat' split) <;> first | (exfalso; omega) | rfl | (refine bool_leaf ?_; simp only [decide_eq_true_eq, Bool.false_eq_true, false_iff]; omega)
theorem f14_eq (c : Cl) (e : Int) : f14 c e = some (.int .i64 (kindF c.no e)) := by
  have e3 : ∀ n, (eventF n = true) = (6 ≤ n ∧ n ≤ 8) := fun n => by simp [eventF]
  have hw : 6 ≤ c.no ∧ c.no ≤ 8 → w64 (4 + c.no) = 4 + c.no := fun h => by unfold w64 IntKind.wrap; simp [IntKind.signed, IntKind.bits]; omega
  unfold f14 kindF
  simp only [e3]
  (repeat' split) <;> first | (exfalso; omega) | rfl | (rw [hw (by omega)])
theorem f38_eq (c : Cl) (e : Int) : f38 c e = some (.int .i64 (kindF c.no e)) := by
  have out : ∀ {a b d : Int}, (kdOf c.no).well = a → (kdOf c.no).none = b → (kdOf c.no).had = d → f38 c e = some (.int .i64 (if e = 0 then a else if e = 3 then b else if e = 4 then d else 0)) := fun h1 h2 h3 => by
    unfold f38 letB ofF
    simp only [h1, h2, h3]
    (repeat' split) <;> rfl
  rcases kd_cases c.no with h | h | h | h | h | h | h | h | h | h | h
  case inr.inr.inr.inr.inr.inr.inr.inr.inr.inr =>
    have hk := kd_none h
    rw [out (a := 0) (b := 0) (d := 0) (by rw [hk]) (by rw [hk]) (by rw [hk])]
    unfold kindF
    (repeat' split) <;> first | rfl | (exfalso; omega)
  all_goals
    rw [out (by rw [h]) (by rw [h]) (by rw [h])]
    unfold kindF
    rw [h]
    (repeat' split) <;> first | rfl | (exfalso; omega)
theorem f26_eq (c : Cl) (t id : Int) : f26 c t id = some (.tup [.int .i64 (decOp c), .agg [.int .i64 (decR c t id 0), .int .i64 (decR c t id 1), .int .i64 (decR c t id 2)], .int .i64 (decE c)]) := by
  have hr : ∀ i, decR c t id i = if mayF c then (if c.no = 0 then [c.a, c.b, id].getD i 0 else if c.no = 1 then [c.a, t, 0].getD i 0 else if c.no = 9 then [t, id, 0].getD i 0 else if c.no = 3 then [c.a, c.b, 0].getD i 0 else [c.a, 0, 0].getD i 0) else 0 := fun i => rfl
  unfold f26 letB ofF decOp decE
  simp only [hr]
  by_cases hm : mayF c = true
  · rw [if_neg (by simp [hm])]
    simp only [hm, if_true]
    by_cases h0 : c.no = 0
    · simp [h0]
    by_cases h1 : c.no = 1
    · simp [h0, h1]
    by_cases h9 : c.no = 9
    · simp [h0, h1, h9]
    by_cases h3 : c.no = 3
    · simp [h0, h1, h9, h3, kdOf]
    · have : (kdOf c.no).value = false := by unfold kdOf; (repeat' split) <;> first | rfl | (exfalso; omega)
      simp [h0, h1, h9, h3, this]
  · rw [if_pos (by simp [hm])]
    simp [hm]
theorem mayF_ok (c : Cl) : Spec FF 12 [c.av] (.bool (mayF c)) := f12_ok c (f12_eq c)
theorem kind14_ok (c : Cl) (e : Int) : Spec FF 14 [c.av, .int .i64 e] (.int .i64 (kindF c.no e)) := f14_ok c e (f14_eq c e)
theorem kind38_ok (c : Cl) (e : Int) : Spec FF 38 [c.av, .int .i64 e] (.int .i64 (kindF c.no e)) := f38_ok c e (f38_eq c e)
theorem decode_ok (c : Cl) (t id : Int) : Spec FF 26 [c.av, .int .i64 t, .int .i64 id] (.tup [.int .i64 (decOp c), .agg [.int .i64 (decR c t id 0), .int .i64 (decR c t id 1), .int .i64 (decR c t id 2)], .int .i64 (decE c)]) := f26_ok c t id (f26_eq c t id)
end Go.Proofs.Hz
