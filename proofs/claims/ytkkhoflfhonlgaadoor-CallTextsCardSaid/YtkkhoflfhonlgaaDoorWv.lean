/-
  Chapter 15: walks through functions (part v), written by a program of our own (wip/tools).
  Conditions: none.
-/
import Derived.Test.YtkkhoflfhonlgaaDoorWr
import Derived.Test.YtkkhoflfhonlgaaDoorWe
open Go Go.Proofs
namespace Go.Proofs.Hz
/-- What stands ahead of the first such byte. -/
def upTo (e : UInt8) (t : List UInt8) : List UInt8 := t.takeWhile (fun c => !(c == e))
def byteE (e : Int) : UInt8 := UInt8.ofNat e.toNat
/-- The number that stands at a place, up to a byte, and the place behind that. -/
def numR (s : List UInt8) (i e : Int) : Int × Int :=
  if (upTo (byteE e) (s.drop i.toNat)).length < (s.drop i.toNat).length ∧ numOk (upTo (byteE e) (s.drop i.toNat)) = true then
    (atoiV (upTo (byteE e) (s.drop i.toNat)), i + (upTo (byteE e) (s.drop i.toNat)).length + 1) else (0, -1)
def numG (s : List UInt8) (i e : Int) : Bool := decide ((0 ≤ i ∧ i ≤ s.length) ∧ s.length ≤ 1000000 ∧ (e = 32 ∨ e = 10))
def oneG (s : List UInt8) (i : Int) : Bool := decide ((0 ≤ i ∧ i ≤ s.length) ∧ s.length ≤ 1000000)
/-- The word ahead, and its blank: is it there? -/
def preW (s : List UInt8) (i : Int) (no : Nat) : Bool := (wordK no ++ [32]).isPrefixOf (s.drop i.toNat)
def oneAt (s : List UInt8) (i : Int) (no : Nat) : Cl × Int :=
  if (numR s (i + (wordK no).length + 1) 32).2 < 0 then (⟨0, 0, 0⟩, -1)
  else (⟨no, (numR s (i + (wordK no).length + 1) 32).1, (numR s (numR s (i + (wordK no).length + 1) 32).2 10).1⟩, (numR s (numR s (i + (wordK no).length + 1) 32).2 10).2)
def oneFrom (s : List UInt8) (i : Int) : Nat → Nat → Cl × Int
  | 0, _ => (⟨0, 0, 0⟩, -1)
  | f + 1, no => if preW s i no = true then oneAt s i no else oneFrom s i f (no + 1)
def oneR (s : List UInt8) (i : Int) : Cl × Int := oneFrom s i 10 0

theorem upTo_at {e : UInt8} : ∀ {p r : List UInt8}, e ∉ p → upTo e (p ++ e :: r) = p
  | [], r, _ => by simp [upTo]
  | c :: p, r, h => by
    simp only [List.mem_cons, not_or] at h
    have hc : (!(c == e)) = true := by simp [Ne.symm h.1]
    unfold upTo
    rw [List.cons_append, List.takeWhile_cons, if_pos hc]
    exact congrArg (c :: ·) (upTo_at (r := r) h.2)
theorem upTo_split {e : UInt8} : ∀ {t : List UInt8}, (upTo e t).length < t.length → ∃ r, t = upTo e t ++ e :: r
  | [], h => by simp at h
  | c :: t, h => by
    unfold upTo at h ⊢
    by_cases hc : (!(c == e)) = true
    · rw [List.takeWhile_cons, if_pos hc] at h ⊢
      obtain ⟨r, hr⟩ := upTo_split (e := e) (t := t) (by simpa [upTo] using h)
      exact ⟨r, by rw [List.cons_append]; exact congrArg (c :: ·) hr⟩
    · rw [List.takeWhile_cons, if_neg hc]
      have : c = e := by simpa using hc
      exact ⟨t, by rw [this]; rfl⟩
/-- Where such a number stands, it is read. -/
theorem numR_at {s p r : List UInt8} {i e : Int} {n : Int} (hs : s.drop i.toNat = p ++ byteE e :: r) (hn : inW n = true) (hp : p = itoaK n) (he : byteE e = 32 ∨ byteE e = 10) : numR s i e = (n, i + p.length + 1) := by
  obtain ⟨n1, n2⟩ := num_itoa hn
  have k : -9223372036854775808 ≤ n ∧ n ≤ 9223372036854775807 := by simp only [inW, decide_eq_true_eq] at hn; omega
  have hne : byteE e ∉ p := by
    rw [hp]
    rcases he with h | h <;> rw [h]
    · exact (itoaK_no k).1
    · exact (itoaK_no k).2.1
  unfold numR
  rw [hs, upTo_at hne, if_pos ⟨by simp, by rw [hp]; exact n1⟩, hp, n2]
/-- What is read stands there. -/
theorem numR_of {s : List UInt8} {i e : Int} (h : 0 ≤ (numR s i e).2) : ∃ r, inW (numR s i e).1 = true ∧ s.drop i.toNat = itoaK (numR s i e).1 ++ byteE e :: r ∧ (numR s i e).2 = i + (itoaK (numR s i e).1).length + 1 := by
  unfold numR at h ⊢
  by_cases hc : (upTo (byteE e) (s.drop i.toNat)).length < (s.drop i.toNat).length ∧ numOk (upTo (byteE e) (s.drop i.toNat)) = true
  · rw [if_pos hc]
    obtain ⟨n1, n2⟩ := num_of hc.2
    obtain ⟨r, hr⟩ := upTo_split hc.1
    refine ⟨r, n1, ?_, ?_⟩
    · simp only
      rw [n2]
      exact hr
    · simp only
      rw [n2]
  · rw [if_neg hc] at h
    exact absurd h (by simp)
theorem numR_bad {s : List UInt8} {i e : Int} (h : ¬ 0 ≤ (numR s i e).2) (hi : 0 ≤ i) : numR s i e = (0, -1) := by
  unfold numR at h ⊢
  by_cases hc : (upTo (byteE e) (s.drop i.toNat)).length < (s.drop i.toNat).length ∧ numOk (upTo (byteE e) (s.drop i.toNat)) = true
  · rw [if_pos hc] at h
    exact absurd (by simp only; omega) h
  · rw [if_neg hc]
theorem drop_past {s p r : List UInt8} {e : UInt8} {i : Int} (hi : 0 ≤ i) (hs : s.drop i.toNat = p ++ e :: r) : s.drop (i + p.length + 1).toNat = r := by
  have : (i + p.length + 1).toNat = i.toNat + (p.length + 1) := by omega
  rw [this, ← List.drop_drop, hs, show p ++ e :: r = (p ++ [e]) ++ r by simp]
  exact List.drop_left' (by simp)
theorem preW_iff {s : List UInt8} {i : Int} {no : Nat} : preW s i no = true ↔ ∃ r, s.drop i.toNat = wordK no ++ 32 :: r := by
  unfold preW
  rw [List.isPrefixOf_iff_prefix]
  constructor
  · rintro ⟨r, hr⟩; exact ⟨r, by rw [← hr]; simp⟩
  · rintro ⟨r, hr⟩; exact ⟨r, by rw [hr]; simp⟩
theorem preW_one {s : List UInt8} {i : Int} {n m : Nat} (hn : n ≤ 9) (hm : m ≤ 9) (h1 : preW s i n = true) (h2 : preW s i m = true) : n = m := by
  obtain ⟨r1, e1⟩ := preW_iff.1 h1
  obtain ⟨r2, e2⟩ := preW_iff.1 h2
  have k1 : 0 ≤ (n : Int) ∧ (n : Int) ≤ 9 := by omega
  have k2 : 0 ≤ (m : Int) ∧ (m : Int) ≤ 9 := by omega
  have := (cut_first (word_no k1).1 (word_no k2).1 (e1.symm.trans e2)).1
  have := wordK_inj k1 k2 this
  omega
theorem oneFrom_at {s : List UInt8} {i : Int} {n : Nat} (hn : n ≤ 9) (h : preW s i n = true) : ∀ (f no : Nat), no + f = 10 → no ≤ n → oneFrom s i f no = oneAt s i n := by
  intro f
  induction f with
  | zero => intro no h1 h2; omega
  | succ f ih =>
    intro no h1 h2
    unfold oneFrom
    by_cases hp : preW s i no = true
    · rw [if_pos hp, preW_one (by omega) hn hp h]
    · rw [if_neg hp]
      refine ih (no + 1) (by omega) ?_
      rcases Nat.lt_or_ge no n with h3 | h3
      · exact h3
      · have : no = n := by omega
        subst this; exact absurd h hp
theorem oneFrom_none {s : List UInt8} {i : Int} : ∀ (f no : Nat), no + f = 10 → (∀ n, n ≤ 9 → ¬ preW s i n = true) → oneFrom s i f no = (⟨0, 0, 0⟩, -1) := by
  intro f
  induction f with
  | zero => intro no _ _; rfl
  | succ f ih =>
    intro no h1 h2
    unfold oneFrom
    rw [if_neg (h2 no (by omega))]
    exact ih (no + 1) (by omega) h2
/-- Where a syscall's text stands, it is read. -/
theorem oneR_at {s r : List UInt8} {i : Int} {c : Cl} (hi : 0 ≤ i) (hc : writtenC c = true) (hs : s.drop i.toNat = lineF c ++ r) : oneR s i = (c, i + (lineF c).length) := by
  have h0 : (0 ≤ c.no ∧ c.no ≤ 9) ∧ inW c.a = true ∧ inW c.b = true := by simpa [writtenC] using hc
  obtain ⟨h1, h2, h3⟩ := h0
  have hno : ((c.no.toNat : Nat) : Int) = c.no := by omega
  have e1 : s.drop i.toNat = wordK c.no ++ 32 :: (itoaK c.a ++ 32 :: (itoaK c.b ++ 10 :: r)) := by rw [hs]; simp [lineF]
  have hp : preW s i c.no.toNat = true := preW_iff.2 ⟨_, by rw [hno]; exact e1⟩
  have e2 := drop_past hi e1
  have n1 : numR s (i + (wordK c.no).length + 1) 32 = (c.a, i + (wordK c.no).length + 1 + (itoaK c.a).length + 1) := numR_at (r := itoaK c.b ++ 10 :: r) (by rw [e2]; rfl) h2 rfl (.inl rfl)
  have e3 := drop_past (by omega) e2
  have n2 : numR s (i + (wordK c.no).length + 1 + (itoaK c.a).length + 1) 10 = (c.b, i + (wordK c.no).length + 1 + (itoaK c.a).length + 1 + (itoaK c.b).length + 1) := numR_at (r := r) (by rw [e3]; rfl) h3 rfl (.inr rfl)
  unfold oneR
  rw [oneFrom_at (n := c.no.toNat) (by omega) hp 10 0 rfl (Nat.zero_le _)]
  unfold oneAt
  rw [hno, n1]
  simp only
  rw [if_neg (by omega), n2]
  simp only [Prod.mk.injEq]
  exact ⟨trivial, by simp only [lineF, List.length_append, List.length_singleton]; omega⟩
/-- What is read as a syscall stands there. -/
theorem oneR_of {s : List UInt8} {i : Int} (hi : 0 ≤ i) (h : 0 ≤ (oneR s i).2) : ∃ (c : Cl) (r : List UInt8), writtenC c = true ∧ s.drop i.toNat = lineF c ++ r := by
  by_cases hw : ∃ n, n ≤ 9 ∧ preW s i n = true
  · obtain ⟨n, hn, hp⟩ := hw
    unfold oneR at h
    rw [oneFrom_at hn hp 10 0 rfl (Nat.zero_le _)] at h
    unfold oneAt at h
    by_cases hb : (numR s (i + (wordK n).length + 1) 32).2 < 0
    · rw [if_pos hb] at h; simp at h
    · rw [if_neg hb] at h
      simp only at h
      obtain ⟨r1, w1, d1, m1⟩ := numR_of (s := s) (i := i + (wordK n).length + 1) (e := 32) (by omega)
      obtain ⟨r2, w2, d2, m2⟩ := numR_of h
      obtain ⟨r0, d0⟩ := preW_iff.1 hp
      have e0 := drop_past hi d0
      have e1 := drop_past (by omega) d1
      rw [m1] at d2
      refine ⟨⟨n, (numR s (i + (wordK n).length + 1) 32).1, (numR s (numR s (i + (wordK n).length + 1) 32).2 10).1⟩, r2, ?_, ?_⟩
      · simp only [writtenC, w1, w2]
        simp; omega
      · rw [d0, ← e0, d1, ← e1, d2]
        simp [lineF, byteE, m1]
  · unfold oneR at h
    rw [oneFrom_none 10 0 rfl fun n hn hp => hw ⟨n, hn, hp⟩] at h
    simp at h
theorem oneR_line {s : List UInt8} {i : Int} (hi : 0 ≤ i) :
    (lineOk (cutLine (s.drop i.toNat)).1 = true → oneR s i = (lineC (cutLine (s.drop i.toNat)).1, i + (cutLine (s.drop i.toNat)).1.length)) ∧ (¬ lineOk (cutLine (s.drop i.toNat)).1 = true → (oneR s i).2 < 0) := by
  refine ⟨fun h => ?_, fun h => ?_⟩
  · obtain ⟨w1, w2⟩ := line_of h
    have := oneR_at (r := (cutLine (s.drop i.toNat)).2) hi w1 (by rw [w2, cutLine_app])
    rw [this, w2]
  · rcases Int.lt_or_le (oneR s i).2 0 with h1 | h1
    · exact h1
    · obtain ⟨c, r, hc, hs⟩ := oneR_of hi h1
      rw [hs, lineF_cut hc] at h
      exact absurd (line_to hc).1 h
end Go.Proofs.Hz
open Go Go.Proofs
namespace Go.Proofs.Hz
def qnumR_0 : Nat → List UInt8 → Int → Int → Int → Int → Bool → Option AV
  | 0, _, _, _, _, _, _ => none
  | fu + 1, s, i, e, p0, p1, p2 =>
    if p0 < (List.length s : Int) then
      if 0 ≤ p0 then Option.bind (s[Int.toNat p0]?) fun x2 =>
      if (UInt8.toNat x2 : Int) ≥ 48 then
        if (UInt8.toNat x2 : Int) ≤ 57 then
          if p1 ≤ 461168601842738791 then
            qnumR_0 fu s i e (w64 (p0 + 1)) (w64 ((w64 ((w64 (10 * p1)) + (IntKind.wrap .i64 (UInt8.toNat x2 : Int)))) - 48)) p2
          else
            if p2 = true then
              if p0 ≥ (List.length s : Int) then
                some (.tup [(.int .i64 0), (.int .i64 (-1))])
              else
                if (UInt8.toNat x2 : Int) = e then
                  if (IntKind.wrap .i64 (0 - p1)) > 4611686018427387904 then
                    some (.tup [(.int .i64 0), (.int .i64 (-1))])
                  else
                    if (IntKind.wrap .i64 (0 - p1)) < (-4611686018427387904) then
                      some (.tup [(.int .i64 0), (.int .i64 (-1))])
                    else
                      if -9223372036854775808 ≤ (IntKind.wrap .i64 (0 - p1)) ∧ (IntKind.wrap .i64 (0 - p1)) ≤ 9223372036854775807 then if 0 ≤ i ∧ i ≤ p0 ∧ p0 ≤ (List.length s : Int) then if (!((itoaK (IntKind.wrap .i64 (0 - p1))) == (List.take (Int.toNat p0 - Int.toNat i) (List.drop (Int.toNat i) s)))) = true then
                        some (.tup [(.int .i64 0), (.int .i64 (-1))])
                      else
                        some (.tup [(.int .i64 (IntKind.wrap .i64 (0 - p1))), (.int .i64 (w64 (p0 + 1)))]) else none else none
                else
                  some (.tup [(.int .i64 0), (.int .i64 (-1))])
            else
              if p0 ≥ (List.length s : Int) then
                some (.tup [(.int .i64 0), (.int .i64 (-1))])
              else
                if (UInt8.toNat x2 : Int) = e then
                  if p1 > 4611686018427387904 then
                    some (.tup [(.int .i64 0), (.int .i64 (-1))])
                  else
                    if -9223372036854775808 ≤ p1 ∧ p1 ≤ 9223372036854775807 then if 0 ≤ i ∧ i ≤ p0 ∧ p0 ≤ (List.length s : Int) then if (!((itoaK p1) == (List.take (Int.toNat p0 - Int.toNat i) (List.drop (Int.toNat i) s)))) = true then
                      some (.tup [(.int .i64 0), (.int .i64 (-1))])
                    else
                      some (.tup [(.int .i64 p1), (.int .i64 (w64 (p0 + 1)))]) else none else none
                else
                  some (.tup [(.int .i64 0), (.int .i64 (-1))])
        else
          if p2 = true then
            if p0 ≥ (List.length s : Int) then
              some (.tup [(.int .i64 0), (.int .i64 (-1))])
            else
              if (UInt8.toNat x2 : Int) = e then
                if (IntKind.wrap .i64 (0 - p1)) > 4611686018427387904 then
                  some (.tup [(.int .i64 0), (.int .i64 (-1))])
                else
                  if (IntKind.wrap .i64 (0 - p1)) < (-4611686018427387904) then
                    some (.tup [(.int .i64 0), (.int .i64 (-1))])
                  else
                    if -9223372036854775808 ≤ (IntKind.wrap .i64 (0 - p1)) ∧ (IntKind.wrap .i64 (0 - p1)) ≤ 9223372036854775807 then if 0 ≤ i ∧ i ≤ p0 ∧ p0 ≤ (List.length s : Int) then if (!((itoaK (IntKind.wrap .i64 (0 - p1))) == (List.take (Int.toNat p0 - Int.toNat i) (List.drop (Int.toNat i) s)))) = true then
                      some (.tup [(.int .i64 0), (.int .i64 (-1))])
                    else
                      some (.tup [(.int .i64 (IntKind.wrap .i64 (0 - p1))), (.int .i64 (w64 (p0 + 1)))]) else none else none
              else
                some (.tup [(.int .i64 0), (.int .i64 (-1))])
          else
            if p0 ≥ (List.length s : Int) then
              some (.tup [(.int .i64 0), (.int .i64 (-1))])
            else
              if (UInt8.toNat x2 : Int) = e then
                if p1 > 4611686018427387904 then
                  some (.tup [(.int .i64 0), (.int .i64 (-1))])
                else
                  if p1 < (-4611686018427387904) then
                    some (.tup [(.int .i64 0), (.int .i64 (-1))])
                  else
                    if -9223372036854775808 ≤ p1 ∧ p1 ≤ 9223372036854775807 then if 0 ≤ i ∧ i ≤ p0 ∧ p0 ≤ (List.length s : Int) then if (!((itoaK p1) == (List.take (Int.toNat p0 - Int.toNat i) (List.drop (Int.toNat i) s)))) = true then
                      some (.tup [(.int .i64 0), (.int .i64 (-1))])
                    else
                      some (.tup [(.int .i64 p1), (.int .i64 (w64 (p0 + 1)))]) else none else none
              else
                some (.tup [(.int .i64 0), (.int .i64 (-1))])
      else
        if p2 = true then
          if p0 ≥ (List.length s : Int) then
            some (.tup [(.int .i64 0), (.int .i64 (-1))])
          else
            if (UInt8.toNat x2 : Int) = e then
              if (IntKind.wrap .i64 (0 - p1)) > 4611686018427387904 then
                some (.tup [(.int .i64 0), (.int .i64 (-1))])
              else
                if (IntKind.wrap .i64 (0 - p1)) < (-4611686018427387904) then
                  some (.tup [(.int .i64 0), (.int .i64 (-1))])
                else
                  if -9223372036854775808 ≤ (IntKind.wrap .i64 (0 - p1)) ∧ (IntKind.wrap .i64 (0 - p1)) ≤ 9223372036854775807 then if 0 ≤ i ∧ i ≤ p0 ∧ p0 ≤ (List.length s : Int) then if (!((itoaK (IntKind.wrap .i64 (0 - p1))) == (List.take (Int.toNat p0 - Int.toNat i) (List.drop (Int.toNat i) s)))) = true then
                    some (.tup [(.int .i64 0), (.int .i64 (-1))])
                  else
                    some (.tup [(.int .i64 (IntKind.wrap .i64 (0 - p1))), (.int .i64 (w64 (p0 + 1)))]) else none else none
            else
              some (.tup [(.int .i64 0), (.int .i64 (-1))])
        else
          if p0 ≥ (List.length s : Int) then
            some (.tup [(.int .i64 0), (.int .i64 (-1))])
          else
            if (UInt8.toNat x2 : Int) = e then
              if p1 > 4611686018427387904 then
                some (.tup [(.int .i64 0), (.int .i64 (-1))])
              else
                if p1 < (-4611686018427387904) then
                  some (.tup [(.int .i64 0), (.int .i64 (-1))])
                else
                  if -9223372036854775808 ≤ p1 ∧ p1 ≤ 9223372036854775807 then if 0 ≤ i ∧ i ≤ p0 ∧ p0 ≤ (List.length s : Int) then if (!((itoaK p1) == (List.take (Int.toNat p0 - Int.toNat i) (List.drop (Int.toNat i) s)))) = true then
                    some (.tup [(.int .i64 0), (.int .i64 (-1))])
                  else
                    some (.tup [(.int .i64 p1), (.int .i64 (w64 (p0 + 1)))]) else none else none
            else
              some (.tup [(.int .i64 0), (.int .i64 (-1))]) else none
    else
      if p2 = true then
        if p0 ≥ (List.length s : Int) then
          some (.tup [(.int .i64 0), (.int .i64 (-1))])
        else
          if 0 ≤ p0 then Option.bind (s[Int.toNat p0]?) fun x4 =>
          if (UInt8.toNat x4 : Int) = e then
            if (IntKind.wrap .i64 (0 - p1)) > 4611686018427387904 then
              some (.tup [(.int .i64 0), (.int .i64 (-1))])
            else
              if (IntKind.wrap .i64 (0 - p1)) < (-4611686018427387904) then
                some (.tup [(.int .i64 0), (.int .i64 (-1))])
              else
                if -9223372036854775808 ≤ (IntKind.wrap .i64 (0 - p1)) ∧ (IntKind.wrap .i64 (0 - p1)) ≤ 9223372036854775807 then if 0 ≤ i ∧ i ≤ p0 ∧ p0 ≤ (List.length s : Int) then if (!((itoaK (IntKind.wrap .i64 (0 - p1))) == (List.take (Int.toNat p0 - Int.toNat i) (List.drop (Int.toNat i) s)))) = true then
                  some (.tup [(.int .i64 0), (.int .i64 (-1))])
                else
                  some (.tup [(.int .i64 (IntKind.wrap .i64 (0 - p1))), (.int .i64 (w64 (p0 + 1)))]) else none else none
          else
            some (.tup [(.int .i64 0), (.int .i64 (-1))]) else none
      else
        if p0 ≥ (List.length s : Int) then
          some (.tup [(.int .i64 0), (.int .i64 (-1))])
        else
          if 0 ≤ p0 then Option.bind (s[Int.toNat p0]?) fun x4 =>
          if (UInt8.toNat x4 : Int) = e then
            if p1 > 4611686018427387904 then
              some (.tup [(.int .i64 0), (.int .i64 (-1))])
            else
              if p1 < (-4611686018427387904) then
                some (.tup [(.int .i64 0), (.int .i64 (-1))])
              else
                if -9223372036854775808 ≤ p1 ∧ p1 ≤ 9223372036854775807 then if 0 ≤ i ∧ i ≤ p0 ∧ p0 ≤ (List.length s : Int) then if (!((itoaK p1) == (List.take (Int.toNat p0 - Int.toNat i) (List.drop (Int.toNat i) s)))) = true then
                  some (.tup [(.int .i64 0), (.int .i64 (-1))])
                else
                  some (.tup [(.int .i64 p1), (.int .i64 (w64 (p0 + 1)))]) else none else none
          else
            some (.tup [(.int .i64 0), (.int .i64 (-1))]) else none
def qnumR_0W : List AV := (vT 0 6)
def qnumR_0C : List Blk := []
def qnumR_0V (s : List UInt8) (i : Int) (e : Int) (p0 : Int) (p1 : Int) (p2 : Bool) (σ : Nat → Nat) : Val := (valL ([.str s, .int .i64 i, .int .u8 e, .int .i64 p0, .int .i64 p1, .bool p2]) ([]) [] σ 0)
def qnumR_0X (s : List UInt8) (i : Int) (e : Int) (p0 : Int) (p1 : Int) (p2 : Bool) (_σ : Nat → Nat) : List AV := [(.str s), (.int .i64 i), (.int .u8 e), (.int .i64 p0), (.int .i64 p1), (.bool p2)]
def qnumR_0Y (_s : List UInt8) (_i : Int) (_e : Int) (_p0 : Int) (_p1 : Int) (_p2 : Bool) (_σ : Nat → Nat) : List Blk := []
theorem qnumR_0E (s : List UInt8) (i : Int) (e : Int) (p0 : Int) (p1 : Int) (p2 : Bool) (σ : Nat → Nat) : qnumR_0W.map (gm (qnumR_0V s i e p0 p1 p2 σ)) = qnumR_0X s i e p0 p1 p2 σ := by kernel_rfl
theorem qnumR_0G (s : List UInt8) (i : Int) (e : Int) (p0 : Int) (p1 : Int) (p2 : Bool) (σ : Nat → Nat) : qnumR_0C.map (gB (qnumR_0V s i e p0 p1 p2 σ)) = qnumR_0Y s i e p0 p1 p2 σ := by kernel_rfl
set_option maxHeartbeats 10000000 in
theorem qnumR_0_ok : ∀ (fu : Nat) (s : List UInt8) (i : Int) (e : Int) (p0 : Int) (p1 : Int) (p2 : Bool) {r0 : AV} {z0 : St} {σ : Nat → Nat}, (∀ i j, σ i = σ j → i = j) → qnumR_0 fu s i e p0 p1 p2 = some r0 → Sim (qnumR_0V s i e p0 p1 p2 σ) (tmpl [0, 1, 2, 8, 9, 10] qnumR_0W qnumR_0C) z0 → J FF (fnOf FF 46) (cutK (fnOf FF 46) 0) (.code (.loop (cutB (fnOf FF 46) 0))) z0 r0 := by
  intro fu
  induction fu with
  | zero =>
    intro _ _ _ _ _ _ _ _ _ _ h _
    unfold qnumR_0 at h
    cases h
  | succ fu ih =>
    intro s i e p0 p1 p2 r0 z0 σ hσ h S
    unfold qnumR_0 at h
    exact J_enter (have H := Tok.start hσ S 0 6 0 0 ([.str s, .int .i64 i, .int .u8 e, .int .i64 p0, .int .i64 p1, .bool p2]) ([]) [] (.n) (.n) (qnumR_0E s i e p0 p1 p2 _) (qnumR_0G s i e p0 p1 p2 _); have H := H.t 8 [.int .i64 (List.length s : Int), .bool (decide (p0 < (List.length s : Int)))] |>.r [(.len 1 (cT 0), (vt 6)), (.bin .lss (cT 3) (cT 6), (vt 7))]; iteE h (fun h0 h => have H := H.m 7 true (decide_eq_true h0); reqE h (fun h1 h => bindE h (fun x2 h2 h => have H := H.t 10 [.int .u8 (UInt8.toNat x2 : Int), .bool (decide ((UInt8.toNat x2 : Int) ≥ 48))] |>.r [(.bin .geq (cT 8) (.c (.int .u8 48)), (vt 9))] |>.c (p := (.ixS (cT 0) (cT 3), (vt 8))) (fun _ _ _ => fIxS (b := s) (k := .i64) (n := p0) (y := x2) (by kernel_rfl) (by kernel_rfl) h1 h2 (by kernel_rfl)); iteE h (fun h3 h => have H := H.t 11 [.bool (decide ((UInt8.toNat x2 : Int) ≤ 57))] |>.r [(.bin .leq (cT 8) (.c (.int .u8 57)), (vt 10))] |>.m 9 true (decide_eq_true h3); iteE h (fun h4 h => have H := H.t 12 [.bool (decide (p1 ≤ 461168601842738791))] |>.r [(.bin .leq (cT 4) (cI 461168601842738791), (vt 11))] |>.m 10 true (decide_eq_true h4); iteE h (fun h5 h => have H := H.t 17 [.int .i64 (w64 (10 * p1)), .int .i64 (IntKind.wrap .i64 (UInt8.toNat x2 : Int)), .int .i64 (w64 ((w64 (10 * p1)) + (IntKind.wrap .i64 (UInt8.toNat x2 : Int)))), .int .i64 (w64 ((w64 ((w64 (10 * p1)) + (IntKind.wrap .i64 (UInt8.toNat x2 : Int)))) - 48)), .int .i64 (w64 (p0 + 1))] |>.r [(.bin .mul (cI 10) (cT 4), (vt 12)), (.conv .i64 (cT 8), (vt 13)), (.bin .add (cT 12) (cT 13), (vt 14)), (.bin .sub (cT 14) (cI 48), (vt 15)), (.bin .add (cT 3) (cI 1), (vt 16))] |>.m 11 true (decide_eq_true h5); H.k [0] [0, 1, 2, 8, 9, 10] [] [(vt 0), (vt 1), (vt 2), (vt 16), (vt 15), (vt 5)] [] 0 (qnumR_0V s i e (w64 (p0 + 1)) (w64 ((w64 ((w64 (10 * p1)) + (IntKind.wrap .i64 (UInt8.toNat x2 : Int)))) - 48)) p2 _) (qnumR_0E s i e (w64 (p0 + 1)) (w64 ((w64 ((w64 (10 * p1)) + (IntKind.wrap .i64 (UInt8.toNat x2 : Int)))) - 48)) p2 _) (qnumR_0G s i e (w64 (p0 + 1)) (w64 ((w64 ((w64 (10 * p1)) + (IntKind.wrap .i64 (UInt8.toNat x2 : Int)))) - 48)) p2 _) (fun _ hi S => ih _ _ _ _ _ _ hi h S)) (fun h5 h => have H := H.m 11 false (decide_eq_false h5); iteE h (fun h6 h => have H := H.t 14 [.int .i64 (IntKind.wrap .i64 (0 - p1)), .bool (decide (p0 ≥ (List.length s : Int)))] |>.r [(.un .neg (cT 4), (vt 12)), (.bin .geq (cT 3) (cT 6), (vt 13))] |>.m 5 true h6; iteE h (fun h7 h => have H := H.m 13 true (decide_eq_true h7); H.e [0] h) (fun h7 h => have H := H.t 15 [.bool (!decide ((UInt8.toNat x2 : Int) = e))] |>.r [(.bin .neq (cT 8) (cT 2), (vt 14))] |>.m 13 false (decide_eq_false h7); iteE h (fun h8 h => have H := H.t 16 [.bool (decide ((IntKind.wrap .i64 (0 - p1)) > 4611686018427387904))] |>.r [(.bin .gtr (cT 12) (cI 4611686018427387904), (vt 15))] |>.m 14 false (nT h8); iteE h (fun h9 h => have H := H.m 15 true (decide_eq_true h9); H.e [0] h) (fun h9 h => have H := H.t 17 [.bool (decide ((IntKind.wrap .i64 (0 - p1)) < (-4611686018427387904)))] |>.r [(.bin .lss (cT 12) (cI (-4611686018427387904)), (vt 16))] |>.m 15 false (decide_eq_false h9); iteE h (fun h10 h => have H := H.m 16 true (decide_eq_true h10); H.e [0] h) (fun h10 h => have H := H.m 16 false (decide_eq_false h10); reqE h (fun h11 h => have H := H.t 18 [.str (itoaK (IntKind.wrap .i64 (0 - p1)))] |>.s [(vt 12)] (vt 17) (figures_ok (IntKind.wrap .i64 (0 - p1)) h11); reqE h (fun _ h => have H := H.t 20 [.str (List.take (Int.toNat p0 - Int.toNat i) (List.drop (Int.toNat i) s)), .bool (!((itoaK (IntKind.wrap .i64 (0 - p1))) == (List.take (Int.toNat p0 - Int.toNat i) (List.drop (Int.toNat i) s))))] |>.r [(.bin .neq (cT 17) (cT 18), (vt 19))] |>.c (p := (.slT (cT 0) (some (cT 1)) (some (cT 3)), (vt 18))) (fun _ _ _ => fSlT (l := s) (l' := (List.take (Int.toNat p0 - Int.toNat i) (List.drop (Int.toNat i) s))) (lo := (some ((vt 1), (i : Int)))) (hi := (some ((vt 3), (p0 : Int)))) (by kernel_rfl) ⟨.i64, by kernel_rfl⟩ ⟨.i64, by kernel_rfl⟩ (by simp only [optN]; omega) (by simp [optN]) (by kernel_rfl)); iteE h (fun h13 h => have H := H.m 19 true h13; H.e [0] h) (fun h13 h => have H := H.t 21 [.int .i64 (w64 (p0 + 1))] |>.r [(.bin .add (cT 3) (cI 1), (vt 20))] |>.m 19 false (bF h13); H.e [0] h)))))) (fun h8 h => have H := H.m 14 true (nF h8); H.e [0] h))) (fun h6 h => have H := H.t 13 [.bool (decide (p0 ≥ (List.length s : Int)))] |>.r [(.bin .geq (cT 3) (cT 6), (vt 12))] |>.m 5 false (bF h6); iteE h (fun h7 h => have H := H.m 12 true (decide_eq_true h7); H.e [0] h) (fun h7 h => have H := H.t 14 [.bool (!decide ((UInt8.toNat x2 : Int) = e))] |>.r [(.bin .neq (cT 8) (cT 2), (vt 13))] |>.m 12 false (decide_eq_false h7); iteE h (fun h8 h => have H := H.t 15 [.bool (decide (p1 > 4611686018427387904))] |>.r [(.bin .gtr (cT 4) (cI 4611686018427387904), (vt 14))] |>.m 13 false (nT h8); iteE h (fun h9 h => have H := H.m 14 true (decide_eq_true h9); H.e [0] h) (fun h9 h => have H := H.t 16 [.bool (decide (p1 < (-4611686018427387904)))] |>.r [(.bin .lss (cT 4) (cI (-4611686018427387904)), (vt 15))] |>.m 14 false (decide_eq_false h9) |>.m 15 false (b := (decide (p1 < (-4611686018427387904)))) (decide_eq_false (by omega)); reqE h (fun h10 h => have H := H.t 17 [.str (itoaK p1)] |>.s [(vt 4)] (vt 16) (figures_ok p1 h10); reqE h (fun _ h => have H := H.t 19 [.str (List.take (Int.toNat p0 - Int.toNat i) (List.drop (Int.toNat i) s)), .bool (!((itoaK p1) == (List.take (Int.toNat p0 - Int.toNat i) (List.drop (Int.toNat i) s))))] |>.r [(.bin .neq (cT 16) (cT 17), (vt 18))] |>.c (p := (.slT (cT 0) (some (cT 1)) (some (cT 3)), (vt 17))) (fun _ _ _ => fSlT (l := s) (l' := (List.take (Int.toNat p0 - Int.toNat i) (List.drop (Int.toNat i) s))) (lo := (some ((vt 1), (i : Int)))) (hi := (some ((vt 3), (p0 : Int)))) (by kernel_rfl) ⟨.i64, by kernel_rfl⟩ ⟨.i64, by kernel_rfl⟩ (by simp only [optN]; omega) (by simp [optN]) (by kernel_rfl)); iteE h (fun h12 h => have H := H.m 18 true h12; H.e [0] h) (fun h12 h => have H := H.t 20 [.int .i64 (w64 (p0 + 1))] |>.r [(.bin .add (cT 3) (cI 1), (vt 19))] |>.m 18 false (bF h12); H.e [0] h))))) (fun h8 h => have H := H.m 13 true (nF h8); H.e [0] h))))) (fun h4 h => have H := H.m 10 false (decide_eq_false h4); iteE h (fun h5 h => have H := H.t 13 [.int .i64 (IntKind.wrap .i64 (0 - p1)), .bool (decide (p0 ≥ (List.length s : Int)))] |>.r [(.un .neg (cT 4), (vt 11)), (.bin .geq (cT 3) (cT 6), (vt 12))] |>.m 5 true h5; iteE h (fun h6 h => have H := H.m 12 true (decide_eq_true h6); H.e [0] h) (fun h6 h => have H := H.t 14 [.bool (!decide ((UInt8.toNat x2 : Int) = e))] |>.r [(.bin .neq (cT 8) (cT 2), (vt 13))] |>.m 12 false (decide_eq_false h6); iteE h (fun h7 h => have H := H.t 15 [.bool (decide ((IntKind.wrap .i64 (0 - p1)) > 4611686018427387904))] |>.r [(.bin .gtr (cT 11) (cI 4611686018427387904), (vt 14))] |>.m 13 false (nT h7); iteE h (fun h8 h => have H := H.m 14 true (decide_eq_true h8); H.e [0] h) (fun h8 h => have H := H.t 16 [.bool (decide ((IntKind.wrap .i64 (0 - p1)) < (-4611686018427387904)))] |>.r [(.bin .lss (cT 11) (cI (-4611686018427387904)), (vt 15))] |>.m 14 false (decide_eq_false h8); iteE h (fun h9 h => have H := H.m 15 true (decide_eq_true h9); H.e [0] h) (fun h9 h => have H := H.m 15 false (decide_eq_false h9); reqE h (fun h10 h => have H := H.t 17 [.str (itoaK (IntKind.wrap .i64 (0 - p1)))] |>.s [(vt 11)] (vt 16) (figures_ok (IntKind.wrap .i64 (0 - p1)) h10); reqE h (fun _ h => have H := H.t 19 [.str (List.take (Int.toNat p0 - Int.toNat i) (List.drop (Int.toNat i) s)), .bool (!((itoaK (IntKind.wrap .i64 (0 - p1))) == (List.take (Int.toNat p0 - Int.toNat i) (List.drop (Int.toNat i) s))))] |>.r [(.bin .neq (cT 16) (cT 17), (vt 18))] |>.c (p := (.slT (cT 0) (some (cT 1)) (some (cT 3)), (vt 17))) (fun _ _ _ => fSlT (l := s) (l' := (List.take (Int.toNat p0 - Int.toNat i) (List.drop (Int.toNat i) s))) (lo := (some ((vt 1), (i : Int)))) (hi := (some ((vt 3), (p0 : Int)))) (by kernel_rfl) ⟨.i64, by kernel_rfl⟩ ⟨.i64, by kernel_rfl⟩ (by simp only [optN]; omega) (by simp [optN]) (by kernel_rfl)); iteE h (fun h12 h => have H := H.m 18 true h12; H.e [0] h) (fun h12 h => have H := H.t 20 [.int .i64 (w64 (p0 + 1))] |>.r [(.bin .add (cT 3) (cI 1), (vt 19))] |>.m 18 false (bF h12); H.e [0] h)))))) (fun h7 h => have H := H.m 13 true (nF h7); H.e [0] h))) (fun h5 h => have H := H.t 12 [.bool (decide (p0 ≥ (List.length s : Int)))] |>.r [(.bin .geq (cT 3) (cT 6), (vt 11))] |>.m 5 false (bF h5); iteE h (fun h6 h => have H := H.m 11 true (decide_eq_true h6); H.e [0] h) (fun h6 h => have H := H.t 13 [.bool (!decide ((UInt8.toNat x2 : Int) = e))] |>.r [(.bin .neq (cT 8) (cT 2), (vt 12))] |>.m 11 false (decide_eq_false h6); iteE h (fun h7 h => have H := H.t 14 [.bool (decide (p1 > 4611686018427387904))] |>.r [(.bin .gtr (cT 4) (cI 4611686018427387904), (vt 13))] |>.m 12 false (nT h7); iteE h (fun h8 h => have H := H.m 13 true (decide_eq_true h8); H.e [0] h) (fun h8 h => have H := H.t 15 [.bool (decide (p1 < (-4611686018427387904)))] |>.r [(.bin .lss (cT 4) (cI (-4611686018427387904)), (vt 14))] |>.m 13 false (decide_eq_false h8); iteE h (fun h9 h => have H := H.m 14 true (decide_eq_true h9); H.e [0] h) (fun h9 h => have H := H.m 14 false (decide_eq_false h9); reqE h (fun h10 h => have H := H.t 16 [.str (itoaK p1)] |>.s [(vt 4)] (vt 15) (figures_ok p1 h10); reqE h (fun _ h => have H := H.t 18 [.str (List.take (Int.toNat p0 - Int.toNat i) (List.drop (Int.toNat i) s)), .bool (!((itoaK p1) == (List.take (Int.toNat p0 - Int.toNat i) (List.drop (Int.toNat i) s))))] |>.r [(.bin .neq (cT 15) (cT 16), (vt 17))] |>.c (p := (.slT (cT 0) (some (cT 1)) (some (cT 3)), (vt 16))) (fun _ _ _ => fSlT (l := s) (l' := (List.take (Int.toNat p0 - Int.toNat i) (List.drop (Int.toNat i) s))) (lo := (some ((vt 1), (i : Int)))) (hi := (some ((vt 3), (p0 : Int)))) (by kernel_rfl) ⟨.i64, by kernel_rfl⟩ ⟨.i64, by kernel_rfl⟩ (by simp only [optN]; omega) (by simp [optN]) (by kernel_rfl)); iteE h (fun h12 h => have H := H.m 17 true h12; H.e [0] h) (fun h12 h => have H := H.t 19 [.int .i64 (w64 (p0 + 1))] |>.r [(.bin .add (cT 3) (cI 1), (vt 18))] |>.m 17 false (bF h12); H.e [0] h)))))) (fun h7 h => have H := H.m 12 true (nF h7); H.e [0] h))))) (fun h3 h => have H := H.m 9 false (decide_eq_false h3); iteE h (fun h4 h => have H := H.t 12 [.int .i64 (IntKind.wrap .i64 (0 - p1)), .bool (decide (p0 ≥ (List.length s : Int)))] |>.r [(.un .neg (cT 4), (vt 10)), (.bin .geq (cT 3) (cT 6), (vt 11))] |>.m 5 true h4; iteE h (fun h5 h => have H := H.m 11 true (decide_eq_true h5); H.e [0] h) (fun h5 h => have H := H.t 13 [.bool (!decide ((UInt8.toNat x2 : Int) = e))] |>.r [(.bin .neq (cT 8) (cT 2), (vt 12))] |>.m 11 false (decide_eq_false h5); iteE h (fun h6 h => have H := H.t 14 [.bool (decide ((IntKind.wrap .i64 (0 - p1)) > 4611686018427387904))] |>.r [(.bin .gtr (cT 10) (cI 4611686018427387904), (vt 13))] |>.m 12 false (nT h6); iteE h (fun h7 h => have H := H.m 13 true (decide_eq_true h7); H.e [0] h) (fun h7 h => have H := H.t 15 [.bool (decide ((IntKind.wrap .i64 (0 - p1)) < (-4611686018427387904)))] |>.r [(.bin .lss (cT 10) (cI (-4611686018427387904)), (vt 14))] |>.m 13 false (decide_eq_false h7); iteE h (fun h8 h => have H := H.m 14 true (decide_eq_true h8); H.e [0] h) (fun h8 h => have H := H.m 14 false (decide_eq_false h8); reqE h (fun h9 h => have H := H.t 16 [.str (itoaK (IntKind.wrap .i64 (0 - p1)))] |>.s [(vt 10)] (vt 15) (figures_ok (IntKind.wrap .i64 (0 - p1)) h9); reqE h (fun _ h => have H := H.t 18 [.str (List.take (Int.toNat p0 - Int.toNat i) (List.drop (Int.toNat i) s)), .bool (!((itoaK (IntKind.wrap .i64 (0 - p1))) == (List.take (Int.toNat p0 - Int.toNat i) (List.drop (Int.toNat i) s))))] |>.r [(.bin .neq (cT 15) (cT 16), (vt 17))] |>.c (p := (.slT (cT 0) (some (cT 1)) (some (cT 3)), (vt 16))) (fun _ _ _ => fSlT (l := s) (l' := (List.take (Int.toNat p0 - Int.toNat i) (List.drop (Int.toNat i) s))) (lo := (some ((vt 1), (i : Int)))) (hi := (some ((vt 3), (p0 : Int)))) (by kernel_rfl) ⟨.i64, by kernel_rfl⟩ ⟨.i64, by kernel_rfl⟩ (by simp only [optN]; omega) (by simp [optN]) (by kernel_rfl)); iteE h (fun h11 h => have H := H.m 17 true h11; H.e [0] h) (fun h11 h => have H := H.t 19 [.int .i64 (w64 (p0 + 1))] |>.r [(.bin .add (cT 3) (cI 1), (vt 18))] |>.m 17 false (bF h11); H.e [0] h)))))) (fun h6 h => have H := H.m 12 true (nF h6); H.e [0] h))) (fun h4 h => have H := H.t 11 [.bool (decide (p0 ≥ (List.length s : Int)))] |>.r [(.bin .geq (cT 3) (cT 6), (vt 10))] |>.m 5 false (bF h4); iteE h (fun h5 h => have H := H.m 10 true (decide_eq_true h5); H.e [0] h) (fun h5 h => have H := H.t 12 [.bool (!decide ((UInt8.toNat x2 : Int) = e))] |>.r [(.bin .neq (cT 8) (cT 2), (vt 11))] |>.m 10 false (decide_eq_false h5); iteE h (fun h6 h => have H := H.t 13 [.bool (decide (p1 > 4611686018427387904))] |>.r [(.bin .gtr (cT 4) (cI 4611686018427387904), (vt 12))] |>.m 11 false (nT h6); iteE h (fun h7 h => have H := H.m 12 true (decide_eq_true h7); H.e [0] h) (fun h7 h => have H := H.t 14 [.bool (decide (p1 < (-4611686018427387904)))] |>.r [(.bin .lss (cT 4) (cI (-4611686018427387904)), (vt 13))] |>.m 12 false (decide_eq_false h7); iteE h (fun h8 h => have H := H.m 13 true (decide_eq_true h8); H.e [0] h) (fun h8 h => have H := H.m 13 false (decide_eq_false h8); reqE h (fun h9 h => have H := H.t 15 [.str (itoaK p1)] |>.s [(vt 4)] (vt 14) (figures_ok p1 h9); reqE h (fun _ h => have H := H.t 17 [.str (List.take (Int.toNat p0 - Int.toNat i) (List.drop (Int.toNat i) s)), .bool (!((itoaK p1) == (List.take (Int.toNat p0 - Int.toNat i) (List.drop (Int.toNat i) s))))] |>.r [(.bin .neq (cT 14) (cT 15), (vt 16))] |>.c (p := (.slT (cT 0) (some (cT 1)) (some (cT 3)), (vt 15))) (fun _ _ _ => fSlT (l := s) (l' := (List.take (Int.toNat p0 - Int.toNat i) (List.drop (Int.toNat i) s))) (lo := (some ((vt 1), (i : Int)))) (hi := (some ((vt 3), (p0 : Int)))) (by kernel_rfl) ⟨.i64, by kernel_rfl⟩ ⟨.i64, by kernel_rfl⟩ (by simp only [optN]; omega) (by simp [optN]) (by kernel_rfl)); iteE h (fun h11 h => have H := H.m 16 true h11; H.e [0] h) (fun h11 h => have H := H.t 18 [.int .i64 (w64 (p0 + 1))] |>.r [(.bin .add (cT 3) (cI 1), (vt 17))] |>.m 16 false (bF h11); H.e [0] h)))))) (fun h6 h => have H := H.m 11 true (nF h6); H.e [0] h))))))) (fun h0 h => have H := H.m 7 false (decide_eq_false h0); iteE h (fun h1 h => have H := H.t 10 [.int .i64 (IntKind.wrap .i64 (0 - p1)), .bool (decide (p0 ≥ (List.length s : Int)))] |>.r [(.un .neg (cT 4), (vt 8)), (.bin .geq (cT 3) (cT 6), (vt 9))] |>.m 5 true h1; iteE h (fun h2 h => have H := H.m 9 true (decide_eq_true h2); H.e [0] h) (fun h2 h => have H := H.m 9 false (decide_eq_false h2); reqE h (fun h3 h => bindE h (fun x4 h4 h => have H := H.t 12 [.int .u8 (UInt8.toNat x4 : Int), .bool (!decide ((UInt8.toNat x4 : Int) = e))] |>.r [(.bin .neq (cT 10) (cT 2), (vt 11))] |>.c (p := (.ixS (cT 0) (cT 3), (vt 10))) (fun _ _ _ => fIxS (b := s) (k := .i64) (n := p0) (y := x4) (by kernel_rfl) (by kernel_rfl) h3 h4 (by kernel_rfl)); iteE h (fun h5 h => have H := H.t 13 [.bool (decide ((IntKind.wrap .i64 (0 - p1)) > 4611686018427387904))] |>.r [(.bin .gtr (cT 8) (cI 4611686018427387904), (vt 12))] |>.m 11 false (nT h5); iteE h (fun h6 h => have H := H.m 12 true (decide_eq_true h6); H.e [0] h) (fun h6 h => have H := H.t 14 [.bool (decide ((IntKind.wrap .i64 (0 - p1)) < (-4611686018427387904)))] |>.r [(.bin .lss (cT 8) (cI (-4611686018427387904)), (vt 13))] |>.m 12 false (decide_eq_false h6); iteE h (fun h7 h => have H := H.m 13 true (decide_eq_true h7); H.e [0] h) (fun h7 h => have H := H.m 13 false (decide_eq_false h7); reqE h (fun h8 h => have H := H.t 15 [.str (itoaK (IntKind.wrap .i64 (0 - p1)))] |>.s [(vt 8)] (vt 14) (figures_ok (IntKind.wrap .i64 (0 - p1)) h8); reqE h (fun _ h => have H := H.t 17 [.str (List.take (Int.toNat p0 - Int.toNat i) (List.drop (Int.toNat i) s)), .bool (!((itoaK (IntKind.wrap .i64 (0 - p1))) == (List.take (Int.toNat p0 - Int.toNat i) (List.drop (Int.toNat i) s))))] |>.r [(.bin .neq (cT 14) (cT 15), (vt 16))] |>.c (p := (.slT (cT 0) (some (cT 1)) (some (cT 3)), (vt 15))) (fun _ _ _ => fSlT (l := s) (l' := (List.take (Int.toNat p0 - Int.toNat i) (List.drop (Int.toNat i) s))) (lo := (some ((vt 1), (i : Int)))) (hi := (some ((vt 3), (p0 : Int)))) (by kernel_rfl) ⟨.i64, by kernel_rfl⟩ ⟨.i64, by kernel_rfl⟩ (by simp only [optN]; omega) (by simp [optN]) (by kernel_rfl)); iteE h (fun h10 h => have H := H.m 16 true h10; H.e [0] h) (fun h10 h => have H := H.t 18 [.int .i64 (w64 (p0 + 1))] |>.r [(.bin .add (cT 3) (cI 1), (vt 17))] |>.m 16 false (bF h10); H.e [0] h)))))) (fun h5 h => have H := H.m 11 true (nF h5); H.e [0] h))))) (fun h1 h => have H := H.t 9 [.bool (decide (p0 ≥ (List.length s : Int)))] |>.r [(.bin .geq (cT 3) (cT 6), (vt 8))] |>.m 5 false (bF h1); iteE h (fun h2 h => have H := H.m 8 true (decide_eq_true h2); H.e [0] h) (fun h2 h => have H := H.m 8 false (decide_eq_false h2); reqE h (fun h3 h => bindE h (fun x4 h4 h => have H := H.t 11 [.int .u8 (UInt8.toNat x4 : Int), .bool (!decide ((UInt8.toNat x4 : Int) = e))] |>.r [(.bin .neq (cT 9) (cT 2), (vt 10))] |>.c (p := (.ixS (cT 0) (cT 3), (vt 9))) (fun _ _ _ => fIxS (b := s) (k := .i64) (n := p0) (y := x4) (by kernel_rfl) (by kernel_rfl) h3 h4 (by kernel_rfl)); iteE h (fun h5 h => have H := H.t 12 [.bool (decide (p1 > 4611686018427387904))] |>.r [(.bin .gtr (cT 4) (cI 4611686018427387904), (vt 11))] |>.m 10 false (nT h5); iteE h (fun h6 h => have H := H.m 11 true (decide_eq_true h6); H.e [0] h) (fun h6 h => have H := H.t 13 [.bool (decide (p1 < (-4611686018427387904)))] |>.r [(.bin .lss (cT 4) (cI (-4611686018427387904)), (vt 12))] |>.m 11 false (decide_eq_false h6); iteE h (fun h7 h => have H := H.m 12 true (decide_eq_true h7); H.e [0] h) (fun h7 h => have H := H.m 12 false (decide_eq_false h7); reqE h (fun h8 h => have H := H.t 14 [.str (itoaK p1)] |>.s [(vt 4)] (vt 13) (figures_ok p1 h8); reqE h (fun _ h => have H := H.t 16 [.str (List.take (Int.toNat p0 - Int.toNat i) (List.drop (Int.toNat i) s)), .bool (!((itoaK p1) == (List.take (Int.toNat p0 - Int.toNat i) (List.drop (Int.toNat i) s))))] |>.r [(.bin .neq (cT 13) (cT 14), (vt 15))] |>.c (p := (.slT (cT 0) (some (cT 1)) (some (cT 3)), (vt 14))) (fun _ _ _ => fSlT (l := s) (l' := (List.take (Int.toNat p0 - Int.toNat i) (List.drop (Int.toNat i) s))) (lo := (some ((vt 1), (i : Int)))) (hi := (some ((vt 3), (p0 : Int)))) (by kernel_rfl) ⟨.i64, by kernel_rfl⟩ ⟨.i64, by kernel_rfl⟩ (by simp only [optN]; omega) (by simp [optN]) (by kernel_rfl)); iteE h (fun h10 h => have H := H.m 15 true h10; H.e [0] h) (fun h10 h => have H := H.t 17 [.int .i64 (w64 (p0 + 1))] |>.r [(.bin .add (cT 3) (cI 1), (vt 16))] |>.m 15 false (bF h10); H.e [0] h)))))) (fun h5 h => have H := H.m 10 true (nF h5); H.e [0] h)))))))
def qnumR (fu : Nat) (s : List UInt8) (i : Int) (e : Int) : Option AV :=
  if i < (List.length s : Int) then
    if 0 ≤ i then Option.bind (s[Int.toNat i]?) fun x2 =>
    if (UInt8.toNat x2 : Int) = 45 then
      qnumR_0 fu s i e (w64 (i + 1)) 0 (decide ((UInt8.toNat x2 : Int) = 45))
    else
      qnumR_0 fu s i e i 0 (decide ((UInt8.toNat x2 : Int) = 45)) else none
  else
    qnumR_0 fu s i e i 0 false
def qnumRW : List AV := [(vt 0), (vt 1), (vt 2)]
def qnumRV (s : List UInt8) (i : Int) (e : Int) (σ : Nat → Nat) : Val := (valL ([.str s, .int .i64 i, .int .u8 e]) ([]) [] σ 0)
def qnumRX (s : List UInt8) (i : Int) (e : Int) (_σ : Nat → Nat) : List AV := [(.str s), (.int .i64 i), (.int .u8 e)]
def qnumRY (_s : List UInt8) (_i : Int) (_e : Int) (_σ : Nat → Nat) : List Blk := []
theorem qnumRE (s : List UInt8) (i : Int) (e : Int) (σ : Nat → Nat) : qnumRW.map (gm (qnumRV s i e σ)) = qnumRX s i e σ := by kernel_rfl
theorem qnumRG (s : List UInt8) (i : Int) (e : Int) (σ : Nat → Nat) : ([] : List Blk).map (gB (qnumRV s i e σ)) = qnumRY s i e σ := by kernel_rfl
theorem qnumR_ok {fu : Nat} (s : List UInt8) (i : Int) (e : Int) {r0 : AV} (h : qnumR fu s i e = some r0) : Spec FF 46 [(.str s), (.int .i64 i), (.int .u8 e)] r0 := by
  unfold qnumR at h
  have hσ : ∀ i j : Nat, (fun i : Nat => i) i = (fun i : Nat => i) j → i = j := fun _ _ e => e
  exact spec_begin (ρ := qnumRV s i e (fun i => i)) (xs := qnumRW) (by kernel_rfl) rfl rfl (by kernel_rfl) (fun z0 S => have H := Tok.start hσ S 0 3 0 0 ([.str s, .int .i64 i, .int .u8 e]) ([]) [] (.n) .n (qnumRE s i e _) (qnumRG s i e _); have H := H.t 5 [.int .i64 (List.length s : Int), .bool (decide (i < (List.length s : Int)))] |>.r [(.len 1 (cT 0), (vt 3)), (.bin .lss (cT 1) (cT 3), (vt 4))]; iteE h (fun h0 h => have H := H.m 4 true (decide_eq_true h0); reqE h (fun h1 h => bindE h (fun x2 h2 h => have H := H.t 7 [.int .u8 (UInt8.toNat x2 : Int), .bool (decide ((UInt8.toNat x2 : Int) = 45))] |>.r [(.bin .eql (cT 5) (.c (.int .u8 45)), (vt 6))] |>.c (p := (.ixS (cT 0) (cT 1), (vt 5))) (fun _ _ _ => fIxS (b := s) (k := .i64) (n := i) (y := x2) (by kernel_rfl) (by kernel_rfl) h1 h2 (by kernel_rfl)); iteE h (fun h3 h => have H := H.t 8 [.int .i64 (w64 (i + 1))] |>.r [(.bin .add (cT 1) (cI 1), (vt 7))] |>.m 6 true (decide_eq_true h3); H.k [0] [0, 1, 2, 8, 9, 10] [] [(vt 0), (vt 1), (vt 2), (vt 7), (.int .i64 0), (vt 6)] [] 0 (qnumR_0V s i e (w64 (i + 1)) 0 (decide ((UInt8.toNat x2 : Int) = 45)) _) (qnumR_0E s i e (w64 (i + 1)) 0 (decide ((UInt8.toNat x2 : Int) = 45)) _) (qnumR_0G s i e (w64 (i + 1)) 0 (decide ((UInt8.toNat x2 : Int) = 45)) _) (fun _ hi S => qnumR_0_ok _ _ _ _ _ _ _ hi h S)) (fun h3 h => have H := H.m 6 false (decide_eq_false h3); H.k [0] [0, 1, 2, 8, 9, 10] [] [(vt 0), (vt 1), (vt 2), (vt 1), (.int .i64 0), (vt 6)] [] 0 (qnumR_0V s i e i 0 (decide ((UInt8.toNat x2 : Int) = 45)) _) (qnumR_0E s i e i 0 (decide ((UInt8.toNat x2 : Int) = 45)) _) (qnumR_0G s i e i 0 (decide ((UInt8.toNat x2 : Int) = 45)) _) (fun _ hi S => qnumR_0_ok _ _ _ _ _ _ _ hi h S))))) (fun h0 h => have H := H.m 4 false (decide_eq_false h0); H.k [0] [0, 1, 2, 8, 9, 10] [] [(vt 0), (vt 1), (vt 2), (vt 1), (.int .i64 0), (.bool false)] [] 0 (qnumR_0V s i e i 0 false _) (qnumR_0E s i e i 0 false _) (qnumR_0G s i e i 0 false _) (fun _ hi S => qnumR_0_ok _ _ _ _ _ _ _ hi h S)))

end Go.Proofs.Hz
