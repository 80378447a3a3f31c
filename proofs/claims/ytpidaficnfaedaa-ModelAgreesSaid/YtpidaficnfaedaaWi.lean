/-
  Chapter 17: a name's key, by the document.
  Conditions: none.
-/
import Derived.Test.YtpidaficnfaedaaWh
import Derived.Test.YtpidaficnfaedaaWx
import Derived.Test.YtpidaficnfaedaaWc
open Go Go.Proofs
namespace Go.Proofs.Hz
theorem f13_eq {m : Md} {c : Cl} {y : Md × Rs} (h : doF m c = some y) : f13 m c = some (.tup [y.1.av, y.2.av]) := by
  have hr : roomB = 140737488355328 := rfl
  unfold doF at h
  by_cases hm : mayF c = true
  rotate_left 1
  · rw [if_neg hm] at h
    cases h
    unfold f13 decE
    rw [if_neg hm]
    rfl
  rw [if_pos hm] at h
  have hmay := (may_iff c).1 hm
  unfold f13 decE
  rw [if_pos hm, if_pos rfl]
  cases hs : searchF m.k.l c.a with
  | none => rw [hs] at h; cases h
  | some s =>
    rw [hs] at h
    simp only [Option.bind_some] at h ⊢
    by_cases h0 : c.no = 0
    · rw [if_pos h0] at h ⊢
      obtain ⟨j, hj⟩ : ∃ j : Nat, c.a = j := ⟨c.a.toNat, by omega⟩
      rw [hj, Int.toNat_natCast] at h
      split at h
      · rename_i hl
        cases h
        have one : ∀ (p : Int) (hp : p = j) (l : List Int), l = (m.q j).l → (if (List.length l + List.length [c.b]) * 8 ≤ roomB ∧ List.length l + List.length [c.b] ≤ roomB then Option.bind (sentF m p ⟨(l ++ [c.b]), false⟩) fun x5 => some (AV.tup [(Md.av x5), (.agg [(.int .i64 0), (.int .i64 0)])]) else none) = some (.tup [(m.setQ j ⟨(m.q j).l ++ [c.b], false⟩).av, (Rs.mk 0 0).av]) := by
          intro p hp l hl'
          subst hp; subst hl'
          have hs : ∀ z, sentF m (j : Int) z = some (m.setQ j z) := fun z => by unfold sentF; rw [if_pos (by omega), Int.toNat_natCast]
          rw [if_pos (by rw [hr]; simp only [List.length_cons, List.length_nil]; omega), hs]
          rfl
        clear hl
        rw [hj]
        have hj' : j = 0 ∨ j = 1 ∨ j = 2 ∨ j = 3 ∨ j = 4 ∨ j = 5 ∨ j = 6 ∨ j = 7 := by omega
        rcases hj' with rfl | rfl | rfl | rfl | rfl | rfl | rfl | rfl
        · rw [if_pos (by decide)]; exact one _ rfl _ rfl
        · rw [if_neg (by decide), if_pos (by decide)]; exact one _ rfl _ rfl
        · rw [if_neg (by decide), if_neg (by decide), if_pos (by decide)]; exact one _ rfl _ rfl
        · rw [if_neg (by decide), if_neg (by decide), if_neg (by decide), if_pos (by decide)]; exact one _ rfl _ rfl
        · rw [if_neg (by decide), if_neg (by decide), if_neg (by decide), if_neg (by decide), if_pos (by decide)]; exact one _ rfl _ rfl
        · rw [if_neg (by decide), if_neg (by decide), if_neg (by decide), if_neg (by decide), if_neg (by decide), if_pos (by decide)]; exact one _ rfl _ rfl
        · rw [if_neg (by decide), if_neg (by decide), if_neg (by decide), if_neg (by decide), if_neg (by decide), if_neg (by decide), if_pos (by decide)]; exact one _ rfl _ rfl
        · rw [if_neg (by decide), if_neg (by decide), if_neg (by decide), if_neg (by decide), if_neg (by decide), if_neg (by decide), if_neg (by decide), if_pos (by decide)]; exact one _ rfl _ rfl
      · cases h
    rw [if_neg h0] at h ⊢
    by_cases h12 : c.no = 1 ∨ c.no = 2
    · rw [if_pos h12] at h
      obtain ⟨j, hj⟩ : ∃ j : Nat, c.a = j := ⟨c.a.toNat, by omega⟩
      rw [hj, Int.toNat_natCast] at h
      have one : ∀ (p : Int) (hp : p = j) (l : List Int) (k : Bool) (e : Int), l = (m.q j).l → k = (m.q j).c → e = (if c.no = 1 then 6 else 3) →
          (if (List.length l : Int) > 0 then
            if 0 ≤ 1 ∧ 1 ≤ (List.length l : Int) then Option.bind (sentF m p ⟨(List.drop (Int.toNat 1) l), k⟩) fun x7 => Option.bind (l[Int.toNat 0]?) fun x8 => some (AV.tup [(Md.av x7), (.agg [(.int .i64 x8), (.int .i64 0)])]) else none
          else some (.tup [(Md.av m), (.agg [(.int .i64 0), (.int .i64 e)])])) = some (.tup [y.1.av, y.2.av]) := by
        intro p hp l k e hl hk he
        subst hp
        have hs : ∀ z, sentF m (j : Int) z = some (m.setQ j z) := fun z => by unfold sentF; rw [if_pos (by omega), Int.toNat_natCast]
        rw [← hl, ← hk, ← he] at h
        cases l with
        | nil => cases h; rfl
        | cons z t =>
          cases h
          rw [if_pos (by simp only [List.length_cons]; omega), if_pos (by simp only [List.length_cons]; omega), hs]
          rfl
      clear h
      have hj' : j = 0 ∨ j = 1 ∨ j = 2 ∨ j = 3 ∨ j = 4 ∨ j = 5 ∨ j = 6 ∨ j = 7 := by omega
      by_cases h1 : c.no = 1
      · rw [if_pos h1, hj]
        have he : (6 : Int) = (if c.no = 1 then 6 else 3) := by rw [if_pos h1]
        rcases hj' with rfl | rfl | rfl | rfl | rfl | rfl | rfl | rfl
        · rw [if_pos (by decide)]; exact one _ rfl _ _ _ rfl rfl he
        · rw [if_neg (by decide), if_pos (by decide)]; exact one _ rfl _ _ _ rfl rfl he
        · rw [if_neg (by decide), if_neg (by decide), if_pos (by decide)]; exact one _ rfl _ _ _ rfl rfl he
        · rw [if_neg (by decide), if_neg (by decide), if_neg (by decide), if_pos (by decide)]; exact one _ rfl _ _ _ rfl rfl he
        · rw [if_neg (by decide), if_neg (by decide), if_neg (by decide), if_neg (by decide), if_pos (by decide)]; exact one _ rfl _ _ _ rfl rfl he
        · rw [if_neg (by decide), if_neg (by decide), if_neg (by decide), if_neg (by decide), if_neg (by decide), if_pos (by decide)]; exact one _ rfl _ _ _ rfl rfl he
        · rw [if_neg (by decide), if_neg (by decide), if_neg (by decide), if_neg (by decide), if_neg (by decide), if_neg (by decide), if_pos (by decide)]; exact one _ rfl _ _ _ rfl rfl he
        · rw [if_neg (by decide), if_neg (by decide), if_neg (by decide), if_neg (by decide), if_neg (by decide), if_neg (by decide), if_neg (by decide), if_pos (by decide)]; exact one _ rfl _ _ _ rfl rfl he
      · rw [if_neg h1, if_pos (by omega), hj]
        have he : (3 : Int) = (if c.no = 1 then 6 else 3) := by rw [if_neg h1]
        rcases hj' with rfl | rfl | rfl | rfl | rfl | rfl | rfl | rfl
        · rw [if_pos (by decide)]; exact one _ rfl _ _ _ rfl rfl he
        · rw [if_neg (by decide), if_pos (by decide)]; exact one _ rfl _ _ _ rfl rfl he
        · rw [if_neg (by decide), if_neg (by decide), if_pos (by decide)]; exact one _ rfl _ _ _ rfl rfl he
        · rw [if_neg (by decide), if_neg (by decide), if_neg (by decide), if_pos (by decide)]; exact one _ rfl _ _ _ rfl rfl he
        · rw [if_neg (by decide), if_neg (by decide), if_neg (by decide), if_neg (by decide), if_pos (by decide)]; exact one _ rfl _ _ _ rfl rfl he
        · rw [if_neg (by decide), if_neg (by decide), if_neg (by decide), if_neg (by decide), if_neg (by decide), if_pos (by decide)]; exact one _ rfl _ _ _ rfl rfl he
        · rw [if_neg (by decide), if_neg (by decide), if_neg (by decide), if_neg (by decide), if_neg (by decide), if_neg (by decide), if_pos (by decide)]; exact one _ rfl _ _ _ rfl rfl he
        · rw [if_neg (by decide), if_neg (by decide), if_neg (by decide), if_neg (by decide), if_neg (by decide), if_neg (by decide), if_neg (by decide), if_pos (by decide)]; exact one _ rfl _ _ _ rfl rfl he
    rw [if_neg h12] at h
    rw [if_neg (by omega), if_neg (by omega)]
    by_cases h3 : c.no = 3
    · rw [if_pos h3] at h ⊢
      by_cases hh : s.2 = true
      · rw [if_pos hh] at h ⊢; cases h; rfl
      · rw [if_neg hh] at h ⊢
        cases hL : laidF m c.a c.b with
        | none => rw [hL] at h; cases h
        | some z => rw [hL] at h; cases h; rfl
    rw [if_neg h3] at h ⊢
    have hs0 : 0 ≤ s.1 := by
      unfold searchF at hs
      split at hs
      · cases hs; simp only; omega
      · cases hs
    by_cases h4 : c.no = 4
    · rw [if_pos h4] at h ⊢
      by_cases hh : s.2 = true
      · rw [if_pos hh] at h
        rw [if_neg (by simp [hh]), if_pos hs0]
        cases hv : m.v.l[s.1.toNat]? with
        | none => rw [hv] at h; cases h
        | some v => rw [hv] at h; cases h; rfl
      · rw [if_neg hh] at h
        rw [if_pos (by simpa using hh)]
        cases h; rfl
    rw [if_neg h4] at h ⊢
    by_cases h5 : c.no = 5
    · rw [if_pos h5] at h ⊢
      by_cases hh : s.2 = true
      · rw [if_pos hh] at h
        rw [if_neg (by simp [hh]), if_pos hs0]
        cases hv : m.v.l[s.1.toNat]? with
        | none => rw [hv] at h; cases h
        | some v =>
          rw [hv] at h
          simp only [Option.bind_some] at h ⊢
          cases hc : cutF m s.1 with
          | none => rw [hc] at h; cases h
          | some z => rw [hc] at h; cases h; rfl
      · rw [if_neg hh] at h
        rw [if_pos (by simpa using hh)]
        cases h; rfl
    rw [if_neg h5] at h ⊢
    by_cases h67 : c.no = 6 ∨ c.no = 7
    · have hy : y = (m.setE c.a.toNat (decide (c.no = 6)), ⟨0, 0⟩) := by
        by_cases h6 : c.no = 6
        · rw [if_pos h6] at h; cases h; simp [h6]
        · rw [if_neg h6, if_pos (by omega)] at h; cases h; simp [h6]
      clear h
      subst hy
      obtain ⟨j, hj⟩ : ∃ j : Nat, c.a = j := ⟨c.a.toNat, by omega⟩
      have hj15 : j = 0 ∨ j = 1 ∨ j = 2 ∨ j = 3 ∨ j = 4 ∨ j = 5 ∨ j = 6 ∨ j = 7 ∨ j = 8 ∨ j = 9 ∨ j = 10 ∨ j = 11 ∨ j = 12 ∨ j = 13 ∨ j = 14 ∨ j = 15 := by omega
      rw [hj]
      generalize decide (c.no = 6) = B
      by_cases h6 : c.no = 6
      · rw [if_pos h6]
        rcases hj15 with rfl | rfl | rfl | rfl | rfl | rfl | rfl | rfl | rfl | rfl | rfl | rfl | rfl | rfl | rfl | rfl <;> simp [Rs.av]
      · rw [if_neg h6, if_pos (by omega)]
        rcases hj15 with rfl | rfl | rfl | rfl | rfl | rfl | rfl | rfl | rfl | rfl | rfl | rfl | rfl | rfl | rfl | rfl <;> simp [Rs.av]
    · rw [if_neg (by omega), if_neg (by omega)] at h
      rw [if_neg (by omega), if_neg (by omega)]
      by_cases h8 : c.no = 8
      · rw [if_pos h8] at h ⊢
        cases ht : testedF m c.a with
        | none => rw [ht] at h; cases h
        | some t => rw [ht] at h; cases h; rfl
      · rw [if_neg h8] at h ⊢
        cases h; rfl
theorem do_ok {m : Md} {c : Cl} {y : Md × Rs} (h : doF m c = some y) : Spec FF 13 [m.av, c.av] (.tup [y.1.av, y.2.av]) := f13_ok m c (f13_eq h)
end Go.Proofs.Hz
open Go Go.Proofs
namespace Go.Proofs.Hz
/-! ### What is taken of a right model -/
theorem right_of {m : Md} (hq : ∀ i, i < 8 → (m.q i).l.length ≤ 1000) (hup : m.k.l.Pairwise (· < ·)) (hn : ∀ x ∈ m.k.l, 0 ≤ x ∧ x ≤ 65535) (hv : m.v.l.length = m.k.l.length) : rightF m = true := by
  simp only [rightF, Bool.and_eq_true, List.all_eq_true, List.mem_range, decide_eq_true_eq, upF_drop]
  exact ⟨hq, ⟨hn, hup⟩, hv⟩
/-- A model of few values and names, one more at most than a small one. -/
structure Few (m : Md) : Prop where
  q : ∀ i, i < 8 → (m.q i).l.length ≤ 100
  k : m.k.l.length ≤ 100
  v : m.v.l.length = m.k.l.length
  up : m.k.l.Pairwise (· < ·)
  name : ∀ x ∈ m.k.l, 0 ≤ x ∧ x ≤ 65535
theorem Small.few {m : Md} (S : Small m) : Few m := ⟨fun i hi => by have := S.q i hi; omega, by have := S.k; omega, S.v, S.up, S.name⟩
theorem Few.right {m : Md} (S : Few m) : rightF m = true := right_of (fun i hi => by have := S.q i hi; omega) S.up S.name S.v
theorem Few.ok {m : Md} (S : Few m) : okM m = true := okM_of (fun i hi => by have := S.q i hi; omega) (by have := S.k; omega) (by have := S.v; have := S.k; omega)
theorem sameF_refl (m : Md) : sameF m m = true := sameF_refl' (fun _ => rfl) rfl rfl (fun _ => rfl) (fun _ => rfl)
theorem setQ_few {m : Md} (S : Small m) {i : Nat} {x : Sl} (hx : x.l.length ≤ 100) : Few (m.setQ i x) := by
  have F := S.few
  refine ⟨fun j hj => ?_, F.k, F.v, F.up, F.name⟩
  show (if j = i then x else m.q j).l.length ≤ 100
  split
  · exact hx
  · exact F.q j hj
theorem setE_few {m : Md} (S : Few m) {i : Nat} {x : Bool} : Few (m.setE i x) := ⟨S.q, S.k, S.v, S.up, S.name⟩
theorem laid_few {m : Md} (S : Small m) {n v : Int} (hn : 0 ≤ n ∧ n ≤ 65535) (hm : n ∉ m.k.l) : ∃ y, laidF m n v = some y ∧ Few y := by
  have hk := S.k
  have hv := S.v
  refine ⟨_, laid_eq S.up (by omega) hv n v, ⟨fun i hi => by have := S.q i hi; show (m.q i).l.length ≤ 100; omega, ?_, ?_, insL_up S.up hm, fun x hx => ?_⟩⟩
  · show (insL m.k.l n).length ≤ 100
    rw [insL_len]; omega
  · show (m.v.l.take (lbF m.k.l n) ++ [v] ++ m.v.l.drop (lbF m.k.l n)).length = (insL m.k.l n).length
    have := lbF_le m.k.l n
    rw [insL_len]; simp; omega
  · have hx' : x ∈ insL m.k.l n := hx
    unfold insL at hx'
    simp only [List.append_assoc, List.mem_append, List.mem_singleton] at hx'
    rcases hx' with h | h | h
    · exact S.name x (List.mem_of_mem_take h)
    · rw [h]; exact hn
    · exact S.name x (List.mem_of_mem_drop h)
theorem cut_few {m : Md} (S : Small m) {i : Nat} (hi : i < m.k.l.length) : ∃ y, cutF m i = some y ∧ Few y := by
  have hk := S.k
  have hv := S.v
  refine ⟨_, cut_eq (by omega) hv hi, ⟨fun j hj => by have := S.q j hj; show (m.q j).l.length ≤ 100; omega, ?_, ?_, cutL_up S.up i, fun x hx => ?_⟩⟩
  · show (cutL m.k.l i).length ≤ 100
    have := cutL_len m.k.l i; omega
  · show (cutL m.v.l i).length = (cutL m.k.l i).length
    rw [cutL_len' _ _ hi, cutL_len' _ _ (by omega)]; omega
  · have hx' : x ∈ cutL m.k.l i := hx
    unfold cutL at hx'
    rcases List.mem_append.1 hx' with h | h
    · exact S.name x (List.mem_of_mem_take h)
    · exact S.name x (List.mem_of_mem_drop h)
/-- What a syscall makes of a model, by its kind. -/
def DoRel (m : Md) (c : Cl) (a : Md) (r : Rs) : Prop :=
  (r.e ≠ 0 ∧ a = m ∧ r.v = 0) ∨ (r.e = 0 ∧ mayF c = true ∧ ((0 ≤ c.no ∧ c.no ≤ 2 ∧ ∃ x, a = m.setQ c.a.toNat x) ∨ (3 ≤ c.no ∧ c.no ≤ 5 ∧ ∃ k v, a = (m.setK k).setV v) ∨ (6 ≤ c.no ∧ c.no ≤ 8 ∧ ∃ b, a = m.setE c.a.toNat b) ∨ (c.no = 9 ∧ a = m)))
theorem laid_set {m y : Md} {n v : Int} (h : laidF m n v = some y) : ∃ k w, y = (m.setK k).setV w := by
  unfold laidF at h
  cases h0 : searchF m.k.l n with
  | none => rw [h0] at h; cases h
  | some s =>
    rw [h0] at h
    simp only [Option.bind_some] at h
    cases h1 : withF m.k.l s.1 0 [n] with
    | none => rw [h1] at h; cases h
    | some k =>
      rw [h1] at h
      simp only [Option.bind_some] at h
      cases h2 : withF m.v.l s.1 0 [v] with
      | none => rw [h2] at h; cases h
      | some w => rw [h2] at h; cases h; exact ⟨_, _, rfl⟩
theorem cut_set {m y : Md} {i : Int} (h : cutF m i = some y) : ∃ k w, y = (m.setK k).setV w := by
  unfold cutF at h
  cases h1 : withF m.k.l i 1 [] with
  | none => rw [h1] at h; cases h
  | some k =>
    rw [h1] at h
    simp only [Option.bind_some] at h
    cases h2 : withF m.v.l i 1 [] with
    | none => rw [h2] at h; cases h
    | some w => rw [h2] at h; cases h; exact ⟨_, _, rfl⟩
theorem do_total {m : Md} (S : Small m) (c : Cl) : ∃ a r, doF m c = some (a, r) ∧ Few a ∧ DoRel m c a r := by
  have F := S.few
  have hk := S.k
  have hv := S.v
  unfold doF DoRel
  by_cases hm : mayF c = true
  rotate_left 1
  · rw [if_neg hm]
    exact ⟨_, _, rfl, F, .inl ⟨by simp, rfl, rfl⟩⟩
  rw [if_pos hm, search_eq S.up (by omega)]
  simp only [Option.bind_some]
  have hmay := (may_iff c).1 hm
  by_cases h0 : c.no = 0
  · have hq := S.q c.a.toNat (by omega)
    rw [if_pos h0, if_pos (by omega)]
    exact ⟨_, _, rfl, setQ_few S (by simp; omega), .inr ⟨rfl, hm, .inl ⟨by omega, by omega, _, rfl⟩⟩⟩
  rw [if_neg h0]
  by_cases h12 : c.no = 1 ∨ c.no = 2
  · rw [if_pos h12]
    have hq := S.q c.a.toNat (by omega)
    cases hl : (m.q c.a.toNat).l with
    | nil =>
      refine ⟨_, _, rfl, F, .inl ⟨?_, rfl, rfl⟩⟩
      show (if c.no = 1 then (6 : Int) else 3) ≠ 0
      split <;> decide
    | cons y t =>
      rw [hl] at hq
      exact ⟨_, _, rfl, setQ_few S (by show t.length ≤ 100; simp at hq; omega), .inr ⟨rfl, hm, .inl ⟨by omega, by omega, _, rfl⟩⟩⟩
  rw [if_neg h12]
  by_cases h3 : c.no = 3
  · rw [if_pos h3]
    by_cases hin : c.a ∈ m.k.l
    · rw [if_pos (by simpa using hin)]
      exact ⟨_, _, rfl, F, .inl ⟨by simp, rfl, rfl⟩⟩
    · rw [if_neg (by simpa using hin)]
      obtain ⟨y, hy, hf⟩ := laid_few (v := c.b) S (n := c.a) (by omega) hin
      obtain ⟨k, w, hkw⟩ := laid_set hy
      rw [hy]
      exact ⟨_, _, rfl, hf, .inr ⟨rfl, hm, .inr (.inl ⟨by omega, by omega, k, w, hkw⟩)⟩⟩
  rw [if_neg h3]
  have hget : c.a ∈ m.k.l → ∃ v, m.v.l[(lbF m.k.l c.a : Int).toNat]? = some v := fun hin => by
    obtain ⟨hlt, _⟩ := (mem_lb S.up).1 hin
    exact ⟨_, List.getElem?_eq_getElem (by omega)⟩
  by_cases h4 : c.no = 4
  · rw [if_pos h4]
    by_cases hin : c.a ∈ m.k.l
    · rw [if_pos (by simpa using hin)]
      obtain ⟨v, hv'⟩ := hget hin
      rw [hv']
      exact ⟨_, _, rfl, F, .inr ⟨rfl, hm, .inr (.inl ⟨by omega, by omega, m.k, m.v, rfl⟩)⟩⟩
    · rw [if_neg (by simpa using hin)]
      exact ⟨_, _, rfl, F, .inl ⟨by simp, rfl, rfl⟩⟩
  rw [if_neg h4]
  by_cases h5 : c.no = 5
  · rw [if_pos h5]
    by_cases hin : c.a ∈ m.k.l
    · rw [if_pos (by simpa using hin)]
      obtain ⟨v, hv'⟩ := hget hin
      obtain ⟨y, hy, hf⟩ := cut_few S ((mem_lb S.up).1 hin).1
      obtain ⟨k, w, hkw⟩ := cut_set hy
      rw [hv', hy]
      exact ⟨_, _, rfl, hf, .inr ⟨rfl, hm, .inr (.inl ⟨by omega, by omega, k, w, hkw⟩)⟩⟩
    · rw [if_neg (by simpa using hin)]
      exact ⟨_, _, rfl, F, .inl ⟨by simp, rfl, rfl⟩⟩
  rw [if_neg h5]
  by_cases h6 : c.no = 6
  · rw [if_pos h6]
    exact ⟨_, _, rfl, setE_few F, .inr ⟨rfl, hm, .inr (.inr (.inl ⟨by omega, by omega, _, rfl⟩))⟩⟩
  rw [if_neg h6]
  by_cases h7 : c.no = 7
  · rw [if_pos h7]
    exact ⟨_, _, rfl, setE_few F, .inr ⟨rfl, hm, .inr (.inr (.inl ⟨by omega, by omega, _, rfl⟩))⟩⟩
  rw [if_neg h7]
  by_cases h8 : c.no = 8
  · rw [if_pos h8]
    have ht : testedF m c.a = some (m.setE c.a.toNat (m.e c.a.toNat && !(m.s c.a.toNat)), if m.e c.a.toNat then 1 else 0) := by unfold testedF; rw [if_pos (by omega)]
    rw [ht]
    exact ⟨_, _, rfl, setE_few F, .inr ⟨rfl, hm, .inr (.inr (.inl ⟨by omega, by omega, _, rfl⟩))⟩⟩
  · rw [if_neg h8]
    exact ⟨_, _, rfl, F, .inr ⟨rfl, hm, .inr (.inr (.inr ⟨by omega, rfl⟩))⟩⟩
end Go.Proofs.Hz
open Go Go.Proofs
namespace Go.Proofs.Hz
def f39 (n : Int) : Option AV :=
  some (.int .i64 (bvT .or .i64 (shT .shl .i64 (revF n) 1) 1))
def f39W : List AV := [(vt 0)]
def f39V (n : Int) (σ : Nat → Nat) : Val := (valL ([.int .i64 n]) ([]) [] σ 0)
def f39X (n : Int) (_σ : Nat → Nat) : List AV := [(.int .i64 n)]
def f39Y (_n : Int) (_σ : Nat → Nat) : List Blk := []
theorem f39E (n : Int) (σ : Nat → Nat) : f39W.map (gm (f39V n σ)) = f39X n σ := by kernel_rfl
theorem f39G (n : Int) (σ : Nat → Nat) : ([] : List Blk).map (gB (f39V n σ)) = f39Y n σ := by kernel_rfl
theorem f39_ok (n : Int) {r0 : AV} (h : f39 n = some r0) : Spec FF 39 [(.int .i64 n)] r0 := by
  unfold f39 at h
  have hσ : ∀ i j : Nat, (fun i : Nat => i) i = (fun i : Nat => i) j → i = j := fun _ _ e => e
  exact spec_begin (ρ := f39V n (fun i => i)) (xs := f39W) (by kernel_rfl) rfl rfl (by kernel_rfl) (fun z0 S => have H := Tok.start hσ S 0 1 0 0 ([.int .i64 n]) ([]) [] (.n) .n (f39E n _) (f39G n _); have H := H.t 4 [.int .i64 (revF n), .int .i64 (shT .shl .i64 (revF n) 1), .int .i64 (bvT .or .i64 (shT .shl .i64 (revF n) 1) 1)] |>.s [(vt 0)] (vt 1) (rev49_ok n) |>.c (p := (.bin .shl (cT 1) (.c (.int .u64 1)), (vt 2))) (fun _ _ _ => fSh (k := .i64) (k' := .u64) (a := (revF n)) (b := 1) (by simp) (by kernel_rfl) (by kernel_rfl) (by decide) (by kernel_rfl)) |>.c (p := (.bin .or (cT 2) (cI 1), (vt 3))) (fun _ _ _ => fBv (k := .i64) (a := (shT .shl .i64 (revF n) 1)) (b := 1) (by simp) (by kernel_rfl) (by kernel_rfl) (by kernel_rfl)); H.e [] h)

end Go.Proofs.Hz
open Go Go.Proofs
namespace Go.Proofs.Hz
theorem f39_eq (n : Int) : f39 n = some (.int .i64 (ordF n)) := by
  obtain ⟨r, h1, h2⟩ := revF_nat n
  unfold f39 ordF
  rw [h1]
  have hs : shT .shl .i64 (r : Int) 1 = ((r * 2 ^ 1 : Nat) : Int) := by
    have hn : ¬ ((1 : Int) < 0) := by omega
    have := w64_id' (n := ((r * 2 ^ 1 : Nat) : Int)) (by omega)
    unfold w64 at this
    simp only [shT, shBin, if_neg hn, IntKind.bits]
    rw [show (r : Int) * 2 ^ (min (Int.toNat 1) 64) = ((r * 2 ^ 1 : Nat) : Int) by simp]
    exact this
  have ho := bv_or (X := r * 2 ^ 1) (Y := 1) (by omega) (by decide)
  rw [show (((1 : Nat)) : Int) = 1 from rfl] at ho
  rw [hs, ho]
  have h3 : (r * 2 ^ 1 ||| 1) = 2 * r + 1 := by
    have := or_step r 1 0 (by decide)
    simpa using this
  rw [h3]; congr 2
theorem ord39_ok (n : Int) : Spec FF 39 [.int .i64 n] (.int .i64 (ordF n)) := f39_ok n (f39_eq n)
end Go.Proofs.Hz
open Go Go.Proofs
namespace Go.Proofs.Hz
def f18 (c : Cl) (r : Rs) (x : Ev) (m : Md) : Option AV :=
  if (kindF c.no r.e) = 0 then
    some (.bool false)
  else
    if (kindF c.no r.e) = x.kind then
      Option.bind (searchF m.k.l c.a) fun x2 =>
      if c.no = 0 then
        if x.a = c.a then
          some (.bool (decide (x.v = c.b)))
        else
          some (.bool false)
      else
        if c.no = 3 then
          if x.a = (ordF c.a) then
            if (kindF c.no r.e) = 5 then
              some (.bool true)
            else
              some (.bool (decide (x.v = c.b)))
          else
            some (.bool false)
        else
          if c.no = 4 then
            if x.a = (ordF c.a) then
              if (kindF c.no r.e) = 7 then
                some (.bool true)
              else
                if x2.2 = true then
                  if 0 ≤ x2.1 then Option.bind (m.v.l[Int.toNat x2.1]?) fun x10 =>
                  some (.bool (decide (r.v = x10))) else none
                else
                  some (.bool false)
            else
              some (.bool false)
          else
            if c.no = 5 then
              if x.a = (ordF c.a) then
                if (kindF c.no r.e) = 7 then
                  some (.bool true)
                else
                  if x2.2 = true then
                    if 0 ≤ x2.1 then Option.bind (m.v.l[Int.toNat x2.1]?) fun x11 =>
                    some (.bool (decide (r.v = x11))) else none
                  else
                    some (.bool false)
              else
                some (.bool false)
            else
              if c.no = 1 then
                if x.a = c.a then
                  if (kindF c.no r.e) = 3 then
                    some (.bool true)
                  else
                    some (.bool (decide (r.v = x.v)))
                else
                  some (.bool false)
              else
                if c.no = 2 then
                  if x.a = c.a then
                    if (kindF c.no r.e) = 3 then
                      some (.bool true)
                    else
                      some (.bool (decide (r.v = x.v)))
                  else
                    some (.bool false)
                else
                  if c.no = 8 then
                    if x.a = c.a then
                      some (.bool (decide (r.v = x.v)))
                    else
                      some (.bool false)
                  else
                    some (.bool (decide (x.a = c.a)))
    else
      some (.bool false)
def f18W : List AV := [(.agg [(vt 0), (vt 1), (vt 2)]), (.agg [(vt 3), (vt 4)]), (.agg (vT 5 5)), (.agg (vF 0 10 ++ vT 10 32))]
def f18V (c : Cl) (r : Rs) (x : Ev) (m : Md) (σ : Nat → Nat) : Val := (valL (ap ([.int .i64 c.no, .int .i64 c.a, .int .i64 c.b, .int .i64 r.v, .int .i64 r.e, .int .i64 x.core, .int .i64 x.kind, .int .i64 x.a, .int .i64 x.b, .int .i64 x.v]) (mdT m)) (mdF m) [] σ 0)
def f18X (c : Cl) (r : Rs) (x : Ev) (m : Md) (_σ : Nat → Nat) : List AV := [(.agg [(.int .i64 c.no), (.int .i64 c.a), (.int .i64 c.b)]), (.agg [(.int .i64 r.v), (.int .i64 r.e)]), (.agg [(.int .i64 x.core), (.int .i64 x.kind), (.int .i64 x.a), (.int .i64 x.b), (.int .i64 x.v)]), (Md.av m)]
def f18Y (_c : Cl) (_r : Rs) (_x : Ev) (_m : Md) (_σ : Nat → Nat) : List Blk := []
theorem f18E (c : Cl) (r : Rs) (x : Ev) (m : Md) (σ : Nat → Nat) : f18W.map (gm (f18V c r x m σ)) = f18X c r x m σ := by kernel_rfl
theorem f18G (c : Cl) (r : Rs) (x : Ev) (m : Md) (σ : Nat → Nat) : ([] : List Blk).map (gB (f18V c r x m σ)) = f18Y c r x m σ := by kernel_rfl
set_option maxHeartbeats 10000000 in
theorem f18_ok (c : Cl) (r : Rs) (x : Ev) (m : Md) {r0 : AV} (h : f18 c r x m = some r0) : Spec FF 18 [(.agg [(.int .i64 c.no), (.int .i64 c.a), (.int .i64 c.b)]), (.agg [(.int .i64 r.v), (.int .i64 r.e)]), (.agg [(.int .i64 x.core), (.int .i64 x.kind), (.int .i64 x.a), (.int .i64 x.b), (.int .i64 x.v)]), (Md.av m)] r0 := by
  unfold f18 at h
  have hσ : ∀ i j : Nat, (fun i : Nat => i) i = (fun i : Nat => i) j → i = j := fun _ _ e => e
  exact spec_begin (ρ := f18V c r x m (fun i => i)) (xs := f18W) (by kernel_rfl) rfl rfl (by kernel_rfl) (fun z0 S => have H := Tok.start hσ S 0 42 10 0 (ap ([.int .i64 c.no, .int .i64 c.a, .int .i64 c.b, .int .i64 r.v, .int .i64 r.e, .int .i64 x.core, .int .i64 x.kind, .int .i64 x.a, .int .i64 x.b, .int .i64 x.v]) (mdT m)) (mdF m) [] (mdF_ok m) .n (f18E c r x m _) (f18G c r x m _); have H := H.t 44 [.int .i64 (kindF c.no r.e), .bool (decide ((kindF c.no r.e) = 0))] |>.r [(.bin .eql (cT 42) (cI 0), (vt 43))] |>.s [(.agg [(vt 0), (vt 1), (vt 2)]), (vt 4)] (vt 42) (kind38_ok c r.e); iteE h (fun h0 h => have H := H.m 43 true (decide_eq_true h0); H.e [] h) (fun h0 h => have H := H.t 45 [.bool (!decide ((kindF c.no r.e) = x.kind))] |>.r [(.bin .neq (cT 42) (cT 6), (vt 44))] |>.m 43 false (decide_eq_false h0); iteE h (fun h1 h => have H := H.m 44 false (nT h1); bindE h (fun x2 h2 h => have H := H.t 48 [.int .i64 x2.1, .bool x2.2, .bool (decide (c.no = 0))] |>.r [(.bin .eql (cT 0) (cI 0), (vt 47))] |>.s [(vf 8), (vt 1)] (.tup [(vt 45), (vt 46)]) (search_ok m.k.c h2); iteE h (fun h3 h => have H := H.t 49 [.bool (decide (x.a = c.a))] |>.r [(.bin .eql (cT 7) (cT 1), (vt 48))] |>.m 47 true (decide_eq_true h3); iteE h (fun h4 h => have H := H.t 50 [.bool (decide (x.v = c.b))] |>.r [(.bin .eql (cT 9) (cT 2), (vt 49))] |>.m 48 true (decide_eq_true h4); H.e [] h) (fun h4 h => have H := H.m 48 false (decide_eq_false h4); H.e [] h)) (fun h3 h => have H := H.t 49 [.bool (decide (c.no = 3))] |>.r [(.bin .eql (cT 0) (cI 3), (vt 48))] |>.m 47 false (decide_eq_false h3); iteE h (fun h4 h => have H := H.t 51 [.int .i64 (ordF c.a), .bool (decide (x.a = (ordF c.a)))] |>.r [(.bin .eql (cT 7) (cT 49), (vt 50))] |>.m 48 true (decide_eq_true h4) |>.s [(vt 1)] (vt 49) (ord39_ok c.a); iteE h (fun h5 h => have H := H.t 52 [.bool (decide ((kindF c.no r.e) = 5))] |>.r [(.bin .eql (cT 42) (cI 5), (vt 51))] |>.m 50 true (decide_eq_true h5); iteE h (fun h6 h => have H := H.m 51 true (decide_eq_true h6); H.e [] h) (fun h6 h => have H := H.t 53 [.bool (decide (x.v = c.b))] |>.r [(.bin .eql (cT 9) (cT 2), (vt 52))] |>.m 51 false (decide_eq_false h6); H.e [] h)) (fun h5 h => have H := H.m 50 false (decide_eq_false h5); H.e [] h)) (fun h4 h => have H := H.t 50 [.bool (decide (c.no = 4))] |>.r [(.bin .eql (cT 0) (cI 4), (vt 49))] |>.m 48 false (decide_eq_false h4); iteE h (fun h5 h => have H := H.t 52 [.int .i64 (ordF c.a), .bool (decide (x.a = (ordF c.a)))] |>.r [(.bin .eql (cT 7) (cT 50), (vt 51))] |>.m 49 true (decide_eq_true h5) |>.s [(vt 1)] (vt 50) (ord39_ok c.a); iteE h (fun h6 h => have H := H.t 53 [.bool (decide ((kindF c.no r.e) = 7))] |>.r [(.bin .eql (cT 42) (cI 7), (vt 52))] |>.m 51 true (decide_eq_true h6); iteE h (fun h7 h => have H := H.m 52 true (decide_eq_true h7); H.e [] h) (fun h7 h => have H := H.m 52 false (decide_eq_false h7); iteE h (fun h8 h => have H := H.m 46 true h8; reqE h (fun h9 h => bindE h (fun x10 h10 h => have H := H.t 55 [.int .i64 x10, .bool (decide (r.v = x10))] |>.r [(.bin .eql (cT 3) (cT 53), (vt 54))] |>.c (p := (.iaS 1 (cF 9) (cT 45), (.ip [(vt 53)] 0))) (fun _ _ _ => fIa (sz := 1) (e := eI) (l := m.v.l) (b := m.v.c) (k := .i64) (n := x2.1) (y := x10) eI_ok (by kernel_rfl) (by kernel_rfl) h9 h10 (by kernel_rfl)); H.e [] h))) (fun h8 h => have H := H.m 46 false (bF h8); H.e [] h))) (fun h6 h => have H := H.m 51 false (decide_eq_false h6); H.e [] h)) (fun h5 h => have H := H.t 51 [.bool (decide (c.no = 5))] |>.r [(.bin .eql (cT 0) (cI 5), (vt 50))] |>.m 49 false (decide_eq_false h5); iteE h (fun h6 h => have H := H.t 53 [.int .i64 (ordF c.a), .bool (decide (x.a = (ordF c.a)))] |>.r [(.bin .eql (cT 7) (cT 51), (vt 52))] |>.m 50 true (decide_eq_true h6) |>.s [(vt 1)] (vt 51) (ord39_ok c.a); iteE h (fun h7 h => have H := H.t 54 [.bool (decide ((kindF c.no r.e) = 7))] |>.r [(.bin .eql (cT 42) (cI 7), (vt 53))] |>.m 52 true (decide_eq_true h7); iteE h (fun h8 h => have H := H.m 53 true (decide_eq_true h8); H.e [] h) (fun h8 h => have H := H.m 53 false (decide_eq_false h8); iteE h (fun h9 h => have H := H.m 46 true h9; reqE h (fun h10 h => bindE h (fun x11 h11 h => have H := H.t 56 [.int .i64 x11, .bool (decide (r.v = x11))] |>.r [(.bin .eql (cT 3) (cT 54), (vt 55))] |>.c (p := (.iaS 1 (cF 9) (cT 45), (.ip [(vt 54)] 0))) (fun _ _ _ => fIa (sz := 1) (e := eI) (l := m.v.l) (b := m.v.c) (k := .i64) (n := x2.1) (y := x11) eI_ok (by kernel_rfl) (by kernel_rfl) h10 h11 (by kernel_rfl)); H.e [] h))) (fun h9 h => have H := H.m 46 false (bF h9); H.e [] h))) (fun h7 h => have H := H.m 52 false (decide_eq_false h7); H.e [] h)) (fun h6 h => have H := H.t 52 [.bool (decide (c.no = 1))] |>.r [(.bin .eql (cT 0) (cI 1), (vt 51))] |>.m 50 false (decide_eq_false h6); iteE h (fun h7 h => have H := H.t 53 [.bool (decide (x.a = c.a))] |>.r [(.bin .eql (cT 7) (cT 1), (vt 52))] |>.m 51 true (decide_eq_true h7); iteE h (fun h8 h => have H := H.t 54 [.bool (decide ((kindF c.no r.e) = 3))] |>.r [(.bin .eql (cT 42) (cI 3), (vt 53))] |>.m 52 true (decide_eq_true h8); iteE h (fun h9 h => have H := H.m 53 true (decide_eq_true h9); H.e [] h) (fun h9 h => have H := H.t 55 [.bool (decide (r.v = x.v))] |>.r [(.bin .eql (cT 3) (cT 9), (vt 54))] |>.m 53 false (decide_eq_false h9); H.e [] h)) (fun h8 h => have H := H.m 52 false (decide_eq_false h8); H.e [] h)) (fun h7 h => have H := H.t 53 [.bool (decide (c.no = 2))] |>.r [(.bin .eql (cT 0) (cI 2), (vt 52))] |>.m 51 false (decide_eq_false h7); iteE h (fun h8 h => have H := H.t 54 [.bool (decide (x.a = c.a))] |>.r [(.bin .eql (cT 7) (cT 1), (vt 53))] |>.m 52 true (decide_eq_true h8); iteE h (fun h9 h => have H := H.t 55 [.bool (decide ((kindF c.no r.e) = 3))] |>.r [(.bin .eql (cT 42) (cI 3), (vt 54))] |>.m 53 true (decide_eq_true h9); iteE h (fun h10 h => have H := H.m 54 true (decide_eq_true h10); H.e [] h) (fun h10 h => have H := H.t 56 [.bool (decide (r.v = x.v))] |>.r [(.bin .eql (cT 3) (cT 9), (vt 55))] |>.m 54 false (decide_eq_false h10); H.e [] h)) (fun h9 h => have H := H.m 53 false (decide_eq_false h9); H.e [] h)) (fun h8 h => have H := H.t 54 [.bool (decide (c.no = 8))] |>.r [(.bin .eql (cT 0) (cI 8), (vt 53))] |>.m 52 false (decide_eq_false h8); iteE h (fun h9 h => have H := H.t 55 [.bool (decide (x.a = c.a))] |>.r [(.bin .eql (cT 7) (cT 1), (vt 54))] |>.m 53 true (decide_eq_true h9); iteE h (fun h10 h => have H := H.t 56 [.bool (decide (r.v = x.v))] |>.r [(.bin .eql (cT 3) (cT 9), (vt 55))] |>.m 54 true (decide_eq_true h10); H.e [] h) (fun h10 h => have H := H.m 54 false (decide_eq_false h10); H.e [] h)) (fun h9 h => have H := H.t 55 [.bool (decide (x.a = c.a))] |>.r [(.bin .eql (cT 7) (cT 1), (vt 54))] |>.m 53 false (decide_eq_false h9); H.e [] h))))))))) (fun h1 h => have H := H.m 44 true (nF h1); H.e [] h)))

end Go.Proofs.Hz
open Go Go.Proofs
namespace Go.Proofs.Hz
theorem f18_eq {c : Cl} {r : Rs} {x : Ev} {m : Md} {b : Bool} (h : toldF c r x m = some b) : f18 c r x m = some (.bool b) := by
  unfold toldF at h
  unfold f18
  generalize kindF c.no r.e = K at h ⊢
  by_cases hk : K = 0
  · rw [if_pos (.inl hk)] at h; rw [if_pos hk]; cases h; rfl
  rw [if_neg hk]
  by_cases hx : K = x.kind
  rotate_left 1
  · rw [if_pos (.inr hx)] at h; rw [if_neg hx]; cases h; rfl
  rw [if_neg (by omega)] at h
  rw [if_pos hx]
  cases hs : searchF m.k.l c.a with
  | none => rw [hs] at h; cases h
  | some s =>
    rw [hs] at h
    simp only [Option.bind_some] at h ⊢
    have hs0 : 0 ≤ s.1 := by
      unfold searchF at hs
      split at hs
      · cases hs; simp only; omega
      · cases hs
    have look : (if x.a = ordF c.a then
        if x.kind = 7 then some true
        else if s.2 then (m.v.l[s.1.toNat]?).bind fun v => some (decide (r.v = v)) else some false
      else some false) = some b →
      (if x.a = (ordF c.a) then
        if K = 7 then
          some (AV.bool true)
        else
          if s.2 = true then
            if 0 ≤ s.1 then Option.bind (m.v.l[Int.toNat s.1]?) fun x10 =>
            some (.bool (decide (r.v = x10))) else none
          else
            some (.bool false)
      else
        some (.bool false)) = some (.bool b) := fun h => by
      by_cases ha : x.a = ordF c.a
      · rw [if_pos ha] at h ⊢
        rw [hx]
        by_cases h7 : x.kind = 7
        · rw [if_pos h7] at h ⊢; cases h; rfl
        · rw [if_neg h7] at h ⊢
          by_cases h2 : s.2 = true
          · rw [if_pos h2] at h ⊢
            rw [if_pos hs0]
            cases hv : m.v.l[s.1.toNat]? with
            | none => rw [hv] at h; cases h
            | some v => rw [hv] at h; cases h; rfl
          · rw [if_neg h2] at h ⊢; cases h; rfl
      · rw [if_neg ha] at h ⊢; cases h; rfl
    have port : decide (x.a = c.a ∧ (x.kind = 3 ∨ r.v = x.v)) = b →
      (if x.a = c.a then
        if K = 3 then
          some (AV.bool true)
        else
          some (.bool (decide (r.v = x.v)))
      else
        some (.bool false)) = some (.bool b) := fun h => by
      subst h
      rw [hx]
      by_cases ha : x.a = c.a
      · rw [if_pos ha]
        by_cases h3 : x.kind = 3 <;> simp [ha, h3]
      · simp [ha]
    by_cases h0 : c.no = 0
    · rw [if_pos h0] at h ⊢
      cases h
      by_cases ha : x.a = c.a <;> simp [ha]
    rw [if_neg h0] at h ⊢
    by_cases h3 : c.no = 3
    · rw [if_pos h3] at h ⊢
      cases h
      rw [hx]
      by_cases ha : x.a = ordF c.a
      · by_cases h5 : x.kind = 5 <;> simp [ha, h5]
      · simp [ha]
    rw [if_neg h3] at h ⊢
    by_cases h4 : c.no = 4
    · rw [if_pos (.inl h4)] at h
      rw [if_pos h4]
      exact look h
    rw [if_neg h4]
    by_cases h5 : c.no = 5
    · rw [if_pos (.inr h5)] at h
      rw [if_pos h5]
      exact look h
    rw [if_neg (by omega)] at h
    rw [if_neg h5]
    by_cases h1 : c.no = 1
    · rw [if_pos (.inl h1)] at h
      rw [if_pos h1]
      exact port (Option.some.inj h)
    rw [if_neg h1]
    by_cases h2 : c.no = 2
    · rw [if_pos (.inr h2)] at h
      rw [if_pos h2]
      exact port (Option.some.inj h)
    rw [if_neg (by omega)] at h
    rw [if_neg h2]
    by_cases h8 : c.no = 8
    · rw [if_pos h8] at h ⊢
      cases h
      by_cases ha : x.a = c.a <;> simp [ha]
    · rw [if_neg h8] at h ⊢
      cases h; rfl
theorem told_ok {c : Cl} {r : Rs} {x : Ev} {m : Md} {b : Bool} (h : toldF c r x m = some b) : Spec FF 18 [c.av, r.av, x.av, m.av] (.bool b) := f18_ok c r x m (f18_eq h)
end Go.Proofs.Hz
open Go Go.Proofs
namespace Go.Proofs.Hz
def f47 (n : Int) : Option AV :=
  if (Int.tmod n 65536) < 0 then
    some (.int .i64 (w64 ((Int.tmod n 65536) + 65536)))
  else
    some (.int .i64 (Int.tmod n 65536))
def f47W : List AV := [(vt 0)]
def f47V (n : Int) (σ : Nat → Nat) : Val := (valL ([.int .i64 n]) ([]) [] σ 0)
def f47X (n : Int) (_σ : Nat → Nat) : List AV := [(.int .i64 n)]
def f47Y (_n : Int) (_σ : Nat → Nat) : List Blk := []
theorem f47E (n : Int) (σ : Nat → Nat) : f47W.map (gm (f47V n σ)) = f47X n σ := by kernel_rfl
theorem f47G (n : Int) (σ : Nat → Nat) : ([] : List Blk).map (gB (f47V n σ)) = f47Y n σ := by kernel_rfl
theorem f47_ok (n : Int) {r0 : AV} (h : f47 n = some r0) : Spec FF 47 [(.int .i64 n)] r0 := by
  unfold f47 at h
  have hσ : ∀ i j : Nat, (fun i : Nat => i) i = (fun i : Nat => i) j → i = j := fun _ _ e => e
  exact spec_begin (ρ := f47V n (fun i => i)) (xs := f47W) (by kernel_rfl) rfl rfl (by kernel_rfl) (fun z0 S => have H := Tok.start hσ S 0 1 0 0 ([.int .i64 n]) ([]) [] (.n) .n (f47E n _) (f47G n _); have H := H.t 3 [.int .i64 (Int.tmod n 65536), .bool (decide ((Int.tmod n 65536) < 0))] |>.r [(.bin .lss (cT 1) (cI 0), (vt 2))] |>.c (p := (.bin .rem (cT 0) (cI 65536), (vt 1))) (fun _ _ _ => fRem (k := .i64) (a := n) (b := 65536) (by kernel_rfl) (by kernel_rfl) (by decide) (by kernel_rfl)); iteE h (fun h0 h => have H := H.t 4 [.int .i64 (w64 ((Int.tmod n 65536) + 65536))] |>.r [(.bin .add (cT 1) (cI 65536), (vt 3))] |>.m 2 true (decide_eq_true h0); H.e [] h) (fun h0 h => have H := H.m 2 false (decide_eq_false h0); H.e [] h))

end Go.Proofs.Hz
open Go Go.Proofs
namespace Go.Proofs.Hz
theorem f47_eq (n : Int) : f47 n = some (.int .i64 (lowF n)) := by
  unfold f47 lowF
  have h1 := Int.tmod_lt_of_pos n (show (0 : Int) < 65536 by decide)
  have h2 : -65536 < n.tmod 65536 := by have := Int.lt_tmod_of_pos n (show (0 : Int) < 65536 by decide); omega
  split
  · rw [w64_id (by omega)]
  · rfl
theorem lowF_ok (n : Int) : Spec FF 47 [.int .i64 n] (.int .i64 (lowF n)) := f47_ok n (f47_eq n)
end Go.Proofs.Hz
open Go Go.Proofs
namespace Go.Proofs.Hz
def f34_0 : Nat → Int → Int → Int → Option AV
  | 0, _, _, _ => none
  | fu + 1, p0, p1, p2 =>
    if p2 < 16 then
      f34_0 fu (IntKind.wrap .i64 (Int.tdiv p0 2)) (w64 ((w64 (2 * p1)) + (Int.tmod p0 2))) (w64 (p2 + 1))
    else
      some (.int .i64 p1)
def f34_0W : List AV := [(vt 0), (vt 1), (vt 2)]
def f34_0C : List Blk := []
def f34_0V (p0 : Int) (p1 : Int) (p2 : Int) (σ : Nat → Nat) : Val := (valL ([.int .i64 p0, .int .i64 p1, .int .i64 p2]) ([]) [] σ 0)
def f34_0X (p0 : Int) (p1 : Int) (p2 : Int) (_σ : Nat → Nat) : List AV := [(.int .i64 p0), (.int .i64 p1), (.int .i64 p2)]
def f34_0Y (_p0 : Int) (_p1 : Int) (_p2 : Int) (_σ : Nat → Nat) : List Blk := []
theorem f34_0E (p0 : Int) (p1 : Int) (p2 : Int) (σ : Nat → Nat) : f34_0W.map (gm (f34_0V p0 p1 p2 σ)) = f34_0X p0 p1 p2 σ := by kernel_rfl
theorem f34_0G (p0 : Int) (p1 : Int) (p2 : Int) (σ : Nat → Nat) : f34_0C.map (gB (f34_0V p0 p1 p2 σ)) = f34_0Y p0 p1 p2 σ := by kernel_rfl
theorem f34_0_ok : ∀ (fu : Nat) (p0 : Int) (p1 : Int) (p2 : Int) {r0 : AV} {z0 : St} {σ : Nat → Nat}, (∀ i j, σ i = σ j → i = j) → f34_0 fu p0 p1 p2 = some r0 → Sim (f34_0V p0 p1 p2 σ) (tmpl [3, 4, 5] f34_0W f34_0C) z0 → J FF (fnOf FF 34) (cutK (fnOf FF 34) 0) (.code (.loop (cutB (fnOf FF 34) 0))) z0 r0 := by
  intro fu
  induction fu with
  | zero =>
    intro _ _ _ _ _ _ _ h _
    unfold f34_0 at h
    cases h
  | succ fu ih =>
    intro p0 p1 p2 r0 z0 σ hσ h S
    unfold f34_0 at h
    exact J_enter (have H := Tok.start hσ S 0 3 0 0 ([.int .i64 p0, .int .i64 p1, .int .i64 p2]) ([]) [] (.n) (.n) (f34_0E p0 p1 p2 _) (f34_0G p0 p1 p2 _); have H := H.t 4 [.bool (decide (p2 < 16))] |>.r [(.bin .lss (cT 2) (cI 16), (vt 3))]; iteE h (fun h0 h => have H := H.t 9 [.int .i64 (w64 (2 * p1)), .int .i64 (Int.tmod p0 2), .int .i64 (w64 ((w64 (2 * p1)) + (Int.tmod p0 2))), .int .i64 (IntKind.wrap .i64 (Int.tdiv p0 2)), .int .i64 (w64 (p2 + 1))] |>.r [(.bin .mul (cI 2) (cT 1), (vt 4)), (.bin .add (cT 4) (cT 5), (vt 6)), (.bin .add (cT 2) (cI 1), (vt 8))] |>.m 3 true (decide_eq_true h0) |>.c (p := (.bin .rem (cT 0) (cI 2), (vt 5))) (fun _ _ _ => fRem (k := .i64) (a := p0) (b := 2) (by kernel_rfl) (by kernel_rfl) (by decide) (by kernel_rfl)) |>.c (p := (.bin .quo (cT 0) (cI 2), (vt 7))) (fun _ _ _ => fQuo (k := .i64) (a := p0) (b := 2) (by kernel_rfl) (by kernel_rfl) (by decide) (by kernel_rfl)); H.k [0] [3, 4, 5] [] [(vt 7), (vt 6), (vt 8)] [] 0 (f34_0V (IntKind.wrap .i64 (Int.tdiv p0 2)) (w64 ((w64 (2 * p1)) + (Int.tmod p0 2))) (w64 (p2 + 1)) _) (f34_0E (IntKind.wrap .i64 (Int.tdiv p0 2)) (w64 ((w64 (2 * p1)) + (Int.tmod p0 2))) (w64 (p2 + 1)) _) (f34_0G (IntKind.wrap .i64 (Int.tdiv p0 2)) (w64 ((w64 (2 * p1)) + (Int.tmod p0 2))) (w64 (p2 + 1)) _) (fun _ hi S => ih _ _ _ hi h S)) (fun h0 h => have H := H.m 3 false (decide_eq_false h0); H.e [0] h))
def f34 (fu : Nat) (n : Int) : Option AV :=
  f34_0 fu (lowF n) 0 0
def f34W : List AV := [(vt 0)]
def f34V (n : Int) (σ : Nat → Nat) : Val := (valL ([.int .i64 n]) ([]) [] σ 0)
def f34X (n : Int) (_σ : Nat → Nat) : List AV := [(.int .i64 n)]
def f34Y (_n : Int) (_σ : Nat → Nat) : List Blk := []
theorem f34E (n : Int) (σ : Nat → Nat) : f34W.map (gm (f34V n σ)) = f34X n σ := by kernel_rfl
theorem f34G (n : Int) (σ : Nat → Nat) : ([] : List Blk).map (gB (f34V n σ)) = f34Y n σ := by kernel_rfl
theorem f34_ok {fu : Nat} (n : Int) {r0 : AV} (h : f34 fu n = some r0) : Spec FF 34 [(.int .i64 n)] r0 := by
  unfold f34 at h
  have hσ : ∀ i j : Nat, (fun i : Nat => i) i = (fun i : Nat => i) j → i = j := fun _ _ e => e
  exact spec_begin (ρ := f34V n (fun i => i)) (xs := f34W) (by kernel_rfl) rfl rfl (by kernel_rfl) (fun z0 S => have H := Tok.start hσ S 0 1 0 0 ([.int .i64 n]) ([]) [] (.n) .n (f34E n _) (f34G n _); have H := H.t 2 [.int .i64 (lowF n)] |>.s [(vt 0)] (vt 1) (lowF_ok n); H.k [0] [3, 4, 5] [] [(vt 1), (.int .i64 0), (.int .i64 0)] [] 0 (f34_0V (lowF n) 0 0 _) (f34_0E (lowF n) 0 0 _) (f34_0G (lowF n) 0 0 _) (fun _ hi S => f34_0_ok _ _ _ _ hi h S))

end Go.Proofs.Hz
open Go Go.Proofs
namespace Go.Proofs.Hz
theorem f34_0_eq : ∀ (k j : Nat) (x a : Nat), j + k = 16 → a < 2 ^ j → x < 65536 → f34_0 (k + 1) (x : Int) (a : Int) (j : Int) = some (.int .i64 (rv k x a : Nat))
  | 0, j, x, a, hj, ha, hx => by
    unfold f34_0
    rw [if_neg (by omega)]
    rfl
  | k + 1, j, x, a, hj, ha, hx => by
    have h16 : 2 ^ j ≤ 2 ^ 16 := Nat.pow_le_pow_right (by decide) (by omega)
    unfold f34_0
    rw [if_pos (by omega)]
    have e1 : IntKind.wrap .i64 (Int.tdiv (x : Int) 2) = ((x / 2 : Nat) : Int) := by
      rw [Int.tdiv_eq_ediv_of_nonneg (by omega)]
      have := w64_id' (n := (x : Int) / 2) (by omega)
      unfold w64 at this
      rw [this]; omega
    have e2 : Int.tmod (x : Int) 2 = ((x % 2 : Nat) : Int) := by rw [Int.tmod_eq_emod_of_nonneg (by omega)]; omega
    rw [e1, e2, w64_id' (n := 2 * (a : Int)) (by omega), w64_id' (by omega), w64_id' (by omega)]
    rw [show (2 * (a : Int) + ((x % 2 : Nat) : Int)) = ((2 * a + x % 2 : Nat) : Int) by omega, show (j : Int) + 1 = ((j + 1 : Nat) : Int) by omega]
    rw [f34_0_eq k (j + 1) (x / 2) (2 * a + x % 2) (by omega) (by rw [Nat.pow_succ]; omega) (by omega)]
    rfl
theorem f34_eq (n : Int) : f34 17 n = some (.int .i64 (revF n)) := by
  obtain ⟨x, h1, h2, _⟩ := lowF_nat n
  unfold f34 revF
  rw [h1]
  exact f34_0_eq 16 0 x 0 (by omega) (by simp) h2
theorem rev34_ok (n : Int) : Spec FF 34 [.int .i64 n] (.int .i64 (revF n)) := f34_ok n (f34_eq n)
end Go.Proofs.Hz
open Go Go.Proofs
namespace Go.Proofs.Hz
def f16 (n : Int) : Option AV :=
  some (.int .i64 (w64 ((w64 (2 * (revF n))) + 1)))
def f16W : List AV := [(vt 0)]
def f16V (n : Int) (σ : Nat → Nat) : Val := (valL ([.int .i64 n]) ([]) [] σ 0)
def f16X (n : Int) (_σ : Nat → Nat) : List AV := [(.int .i64 n)]
def f16Y (_n : Int) (_σ : Nat → Nat) : List Blk := []
theorem f16E (n : Int) (σ : Nat → Nat) : f16W.map (gm (f16V n σ)) = f16X n σ := by kernel_rfl
theorem f16G (n : Int) (σ : Nat → Nat) : ([] : List Blk).map (gB (f16V n σ)) = f16Y n σ := by kernel_rfl
theorem f16_ok (n : Int) {r0 : AV} (h : f16 n = some r0) : Spec FF 16 [(.int .i64 n)] r0 := by
  unfold f16 at h
  have hσ : ∀ i j : Nat, (fun i : Nat => i) i = (fun i : Nat => i) j → i = j := fun _ _ e => e
  exact spec_begin (ρ := f16V n (fun i => i)) (xs := f16W) (by kernel_rfl) rfl rfl (by kernel_rfl) (fun z0 S => have H := Tok.start hσ S 0 1 0 0 ([.int .i64 n]) ([]) [] (.n) .n (f16E n _) (f16G n _); have H := H.t 4 [.int .i64 (revF n), .int .i64 (w64 (2 * (revF n))), .int .i64 (w64 ((w64 (2 * (revF n))) + 1))] |>.r [(.bin .mul (cI 2) (cT 1), (vt 2)), (.bin .add (cT 2) (cI 1), (vt 3))] |>.s [(vt 0)] (vt 1) (rev34_ok n); H.e [] h)

end Go.Proofs.Hz
open Go Go.Proofs
namespace Go.Proofs.Hz
theorem f16_eq (n : Int) : f16 n = some (.int .i64 (ordF n)) := by
  obtain ⟨r, h1, h2⟩ := revF_nat n
  unfold f16 ordF
  rw [h1, w64_id' (n := 2 * (r : Int)) (by omega), w64_id' (by omega)]
theorem ord16_ok (n : Int) : Spec FF 16 [.int .i64 n] (.int .i64 (ordF n)) := f16_ok n (f16_eq n)
end Go.Proofs.Hz
