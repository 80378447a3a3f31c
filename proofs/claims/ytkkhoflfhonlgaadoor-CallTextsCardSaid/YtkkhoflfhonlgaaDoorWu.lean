/-
  Chapter 15: the document's number is numR.
  Conditions: none.
-/
import Derived.Test.YtkkhoflfhonlgaaDoorWv
open Go Go.Proofs
namespace Go.Proofs.Hz
def badA : AV := .tup [.int .i64 0, .int .i64 (-1)]
/-- What is answered where the figures end. -/
def finI (s : List UInt8) (i e : Int) (j : Nat) (n : Int) : AV :=
  if (s[j]?.any fun c => decide ((c.toNat : Int) = e)) = true ∧ inW n = true ∧ itoaK n = (s.drop i.toNat).take (j - i.toNat) then .tup [.int .i64 n, .int .i64 ((j : Int) + 1)] else badA
def sgn (neg : Bool) (n : Int) : Int := if neg = true then -n else n
def numLoop : List UInt8 → Nat → Nat × Nat
  | [], n => (0, n)
  | c :: t, n => if (48 ≤ c.toNat ∧ c.toNat ≤ 57) ∧ n ≤ 461168601842738791 then ((numLoop t (10 * n + (c.toNat - 48))).1 + 1, (numLoop t (10 * n + (c.toNat - 48))).2) else (0, n)
theorem numLoop_le : ∀ (t : List UInt8) (n : Nat), (numLoop t n).1 ≤ t.length
  | [], _ => Nat.le_refl _
  | c :: t, n => by
    unfold numLoop
    split
    · have := numLoop_le t (10 * n + (c.toNat - 48))
      simp only [List.length_cons]; omega
    · exact Nat.zero_le _
theorem numLoop_bound : ∀ (t : List UInt8) (n : Nat), n ≤ 4611686018427387919 → (numLoop t n).2 ≤ 4611686018427387919
  | [], _, h => h
  | c :: t, n, h => by
    unfold numLoop
    split
    · rename_i hc
      exact numLoop_bound t _ (by omega)
    · exact h
theorem numLoop_figs : ∀ (d : List UInt8) (r : List UInt8) (e : UInt8) (n : Nat), (∀ c ∈ d, isFig c) → ¬ isFig e → d.foldl (fun a d => 10 * a + (d.toNat - 48)) n ≤ 4611686018427387904 → numLoop (d ++ e :: r) n = (d.length, d.foldl (fun a d => 10 * a + (d.toNat - 48)) n)
  | [], r, e, n, _, he, _ => by
    unfold isFig at he
    rw [List.nil_append, numLoop, if_neg (fun h => he h.1)]
    rfl
  | c :: d, r, e, n, hd, he, hn => by
    have hc := hd c (by simp)
    unfold isFig at hc
    rw [List.foldl_cons] at hn
    have hg := fig_foldl_ge d (10 * n + (c.toNat - 48))
    have ih := numLoop_figs d r e (10 * n + (c.toNat - 48)) (fun x hx => hd x (by simp [hx])) he hn
    rw [List.cons_append, numLoop, if_pos ⟨hc, by omega⟩, ih]
    rfl
theorem w64_p {n : Nat} (h : n ≤ 1000000) : w64 ((n : Int) + 1) = ((n + 1 : Nat) : Int) := by
  unfold w64 IntKind.wrap
  simp [IntKind.signed, IntKind.bits]
  omega
theorem w64_num {n : Nat} {c : UInt8} (hn : n ≤ 461168601842738791) (hc : 48 ≤ c.toNat ∧ c.toNat ≤ 57) : w64 (w64 (w64 (10 * (n : Int)) + IntKind.wrap .i64 (c.toNat : Int)) - 48) = ((10 * n + (c.toNat - 48) : Nat) : Int) := by
  have h1 : w64 (10 * (n : Int)) = 10 * (n : Int) := wI (by omega)
  have h2 : IntKind.wrap .i64 (c.toNat : Int) = (c.toNat : Int) := wI (by omega)
  rw [h1, h2]
  have h3 : w64 (10 * (n : Int) + (c.toNat : Int)) = 10 * (n : Int) + (c.toNat : Int) := wI (by omega)
  rw [h3]
  have h4 : w64 (10 * (n : Int) + (c.toNat : Int) - 48) = 10 * (n : Int) + (c.toNat : Int) - 48 := wI (by omega)
  rw [h4]
  omega
section
variable {s : List UInt8} {i e : Int} {j : Nat} {n : Int}
theorem finI_none (h : s[j]? = none) : finI s i e j n = badA := by
  unfold finI
  rw [if_neg (by rw [h]; simp)]
theorem finI_ne {c : UInt8} (h : s[j]? = some c) (hc : ¬ (c.toNat : Int) = e) : finI s i e j n = badA := by
  unfold finI
  rw [if_neg (by rw [h]; simp [hc])]
theorem finI_big (h : ¬ inW n = true) : finI s i e j n = badA := by
  unfold finI
  rw [if_neg (fun k => h k.2.1)]
/-- The end of the walk, as the code has it. -/
theorem fin_body {c : UInt8} (h : s[j]? = some c) (hc : (c.toNat : Int) = e) (hi : 0 ≤ i ∧ i ≤ j) (hj : j ≤ 1000000) (hn : -9223372036854775808 ≤ n ∧ n ≤ 9223372036854775807) :
    (if n > 4611686018427387904 then some badA else if n < (-4611686018427387904) then some badA else
      if -9223372036854775808 ≤ n ∧ n ≤ 9223372036854775807 then if 0 ≤ i ∧ i ≤ (j : Int) ∧ (j : Int) ≤ (List.length s : Int) then if (!((itoaK n) == (List.take (Int.toNat (j : Int) - Int.toNat i) (List.drop (Int.toNat i) s)))) = true then some badA
        else some (.tup [.int .i64 n, .int .i64 (w64 ((j : Int) + 1))]) else none else none) = some (finI s i e j n) := by
  have hjl : j < s.length := (List.getElem?_eq_some_iff.1 h).1
  by_cases h1 : n > 4611686018427387904
  · rw [if_pos h1, finI_big (by simp only [inW, decide_eq_true_eq]; omega)]
  by_cases h2 : n < (-4611686018427387904)
  · rw [if_neg h1, if_pos h2, finI_big (by simp only [inW, decide_eq_true_eq]; omega)]
  have hw : inW n = true := by simp only [inW, decide_eq_true_eq]; omega
  rw [if_neg h1, if_neg h2, if_pos hn, if_pos ⟨hi.1, hi.2, by omega⟩, Int.toNat_natCast, w64_p hj]
  unfold finI
  by_cases h3 : itoaK n = (s.drop i.toNat).take (j - i.toNat)
  · rw [if_neg (by simp [h3]), if_pos ⟨by rw [h]; simp [hc], hw, h3⟩]
    rfl
  · rw [if_pos (by simp [h3]), if_neg (fun k => h3 k.2.2)]
/-- The same, where it is not too small. -/
theorem fin_body' {c : UInt8} (h : s[j]? = some c) (hc : (c.toNat : Int) = e) (hi : 0 ≤ i ∧ i ≤ j) (hj : j ≤ 1000000) (hn : 0 ≤ n ∧ n ≤ 9223372036854775807) :
    (if n > 4611686018427387904 then some badA else
      if -9223372036854775808 ≤ n ∧ n ≤ 9223372036854775807 then if 0 ≤ i ∧ i ≤ (j : Int) ∧ (j : Int) ≤ (List.length s : Int) then if (!((itoaK n) == (List.take (Int.toNat (j : Int) - Int.toNat i) (List.drop (Int.toNat i) s)))) = true then some badA
        else some (.tup [.int .i64 n, .int .i64 (w64 ((j : Int) + 1))]) else none else none) = some (finI s i e j n) := by
  rw [← fin_body h hc hi hj (by omega)]
  by_cases h1 : n > 4611686018427387904
  · rw [if_pos h1, if_pos h1]
  · rw [if_neg h1, if_neg h1, if_neg (show ¬ n < (-4611686018427387904) by omega)]
end
theorem wneg {n : Nat} (h : n ≤ 4611686018427387919) : IntKind.wrap .i64 (0 - (n : Int)) = sgn true n := by
  rw [wI (by omega)]
  simp [sgn]
/-- A step of the walk. -/
theorem qnumR_step (fu : Nat) (s : List UInt8) (i e : Int) (j n : Nat) (neg : Bool) (hi : 0 ≤ i ∧ i ≤ j) (hj : j ≤ s.length) (hs : s.length ≤ 1000000) (hn : n ≤ 4611686018427387919) :
    qnumR_0 (fu + 1) s i e j n neg = if ((s[j]?.any fun c => decide (48 ≤ c.toNat ∧ c.toNat ≤ 57)) = true) ∧ n ≤ 461168601842738791 then qnumR_0 fu s i e ((j + 1 : Nat) : Int) ((10 * n + ((s[j]?.getD 0).toNat - 48) : Nat) : Int) neg else some (finI s i e j (sgn neg n)) := by
  rw [qnumR_0]
  by_cases hlt : j < s.length
  · obtain ⟨c, hc⟩ : ∃ c, s[j]? = some c := ⟨s[j], List.getElem?_eq_getElem hlt⟩
    rw [if_pos (by omega), if_pos (by omega)]
    simp only [Int.toNat_natCast, hc, Option.bind_some, Option.any_some, Option.getD_some, decide_eq_true_eq]
    have two : (if neg = true then
          if (j : Int) ≥ (List.length s : Int) then some badA else
            if (UInt8.toNat c : Int) = e then
              if (IntKind.wrap .i64 (0 - (n : Int))) > 4611686018427387904 then some badA else if (IntKind.wrap .i64 (0 - (n : Int))) < (-4611686018427387904) then some badA else
                if -9223372036854775808 ≤ (IntKind.wrap .i64 (0 - (n : Int))) ∧ (IntKind.wrap .i64 (0 - (n : Int))) ≤ 9223372036854775807 then if 0 ≤ i ∧ i ≤ (j : Int) ∧ (j : Int) ≤ (List.length s : Int) then if (!((itoaK (IntKind.wrap .i64 (0 - (n : Int)))) == (List.take (Int.toNat (j : Int) - Int.toNat i) (List.drop (Int.toNat i) s)))) = true then some badA
                  else some (.tup [.int .i64 (IntKind.wrap .i64 (0 - (n : Int))), .int .i64 (w64 ((j : Int) + 1))]) else none else none
            else some badA
        else
          if (j : Int) ≥ (List.length s : Int) then some badA else
            if (UInt8.toNat c : Int) = e then
              if (n : Int) > 4611686018427387904 then some badA else if (n : Int) < (-4611686018427387904) then some badA else
                if -9223372036854775808 ≤ (n : Int) ∧ (n : Int) ≤ 9223372036854775807 then if 0 ≤ i ∧ i ≤ (j : Int) ∧ (j : Int) ≤ (List.length s : Int) then if (!((itoaK (n : Int)) == (List.take (Int.toNat (j : Int) - Int.toNat i) (List.drop (Int.toNat i) s)))) = true then some badA
                  else some (.tup [.int .i64 (n : Int), .int .i64 (w64 ((j : Int) + 1))]) else none else none
            else some badA) = some (finI s i e j (sgn neg n)) := by
      rw [wneg hn]
      cases neg with
      | true =>
        rw [if_pos rfl, if_neg (by omega)]
        by_cases he : (UInt8.toNat c : Int) = e
        · rw [if_pos he]; exact fin_body hc he hi (by omega) (by simp only [sgn]; simp; omega)
        · rw [if_neg he, finI_ne hc he]
      | false =>
        rw [if_neg (by simp), if_neg (by omega)]
        by_cases he : (UInt8.toNat c : Int) = e
        · rw [if_pos he]; exact fin_body hc he hi (by omega) (by omega)
        · rw [if_neg he, finI_ne hc he]
    have twoB : n > 461168601842738791 → (if neg = true then
          if (j : Int) ≥ (List.length s : Int) then some badA else
            if (UInt8.toNat c : Int) = e then
              if (IntKind.wrap .i64 (0 - (n : Int))) > 4611686018427387904 then some badA else if (IntKind.wrap .i64 (0 - (n : Int))) < (-4611686018427387904) then some badA else
                if -9223372036854775808 ≤ (IntKind.wrap .i64 (0 - (n : Int))) ∧ (IntKind.wrap .i64 (0 - (n : Int))) ≤ 9223372036854775807 then if 0 ≤ i ∧ i ≤ (j : Int) ∧ (j : Int) ≤ (List.length s : Int) then if (!((itoaK (IntKind.wrap .i64 (0 - (n : Int)))) == (List.take (Int.toNat (j : Int) - Int.toNat i) (List.drop (Int.toNat i) s)))) = true then some badA
                  else some (.tup [.int .i64 (IntKind.wrap .i64 (0 - (n : Int))), .int .i64 (w64 ((j : Int) + 1))]) else none else none
            else some badA
        else
          if (j : Int) ≥ (List.length s : Int) then some badA else
            if (UInt8.toNat c : Int) = e then
              if (n : Int) > 4611686018427387904 then some badA else
                if -9223372036854775808 ≤ (n : Int) ∧ (n : Int) ≤ 9223372036854775807 then if 0 ≤ i ∧ i ≤ (j : Int) ∧ (j : Int) ≤ (List.length s : Int) then if (!((itoaK (n : Int)) == (List.take (Int.toNat (j : Int) - Int.toNat i) (List.drop (Int.toNat i) s)))) = true then some badA
                  else some (.tup [.int .i64 (n : Int), .int .i64 (w64 ((j : Int) + 1))]) else none else none
            else some badA) = some (finI s i e j (sgn neg n)) := fun hb => by
      rw [wneg hn]
      cases neg with
      | true =>
        rw [if_pos rfl, if_neg (by omega)]
        by_cases he : (UInt8.toNat c : Int) = e
        · rw [if_pos he]; exact fin_body hc he hi (by omega) (by simp only [sgn]; simp; omega)
        · rw [if_neg he, finI_ne hc he]
      | false =>
        rw [if_neg (by simp), if_neg (by omega)]
        by_cases he : (UInt8.toNat c : Int) = e
        · rw [if_pos he]; exact fin_body' hc he hi (by omega) (by omega)
        · rw [if_neg he, finI_ne hc he]
    by_cases h48 : (UInt8.toNat c : Int) ≥ 48
    · rw [if_pos h48]
      by_cases h57 : (UInt8.toNat c : Int) ≤ 57
      · rw [if_pos h57]
        by_cases hb : (n : Int) ≤ 461168601842738791
        · rw [if_pos hb, if_pos (show (48 ≤ c.toNat ∧ c.toNat ≤ 57) ∧ n ≤ 461168601842738791 by omega), w64_p (by omega), w64_num (by omega) (by omega)]
        · rw [if_neg hb, if_neg (show ¬ ((48 ≤ c.toNat ∧ c.toNat ≤ 57) ∧ n ≤ 461168601842738791) by omega)]
          exact twoB (by omega)
      · rw [if_neg h57, if_neg (show ¬ ((48 ≤ c.toNat ∧ c.toNat ≤ 57) ∧ n ≤ 461168601842738791) by omega)]
        exact two
    · rw [if_neg h48, if_neg (show ¬ ((48 ≤ c.toNat ∧ c.toNat ≤ 57) ∧ n ≤ 461168601842738791) by omega)]
      exact two
  · have hnone : s[j]? = none := List.getElem?_eq_none (by omega)
    rw [if_neg (by omega), hnone]
    simp only [Option.any_none, Bool.false_eq_true, false_and, if_false]
    rw [finI_none hnone]
    cases neg with
    | true => rw [if_pos rfl, if_pos (by omega)]; rfl
    | false => rw [if_neg (by simp), if_pos (by omega)]; rfl
theorem qnumR_run (s : List UInt8) (i e : Int) (neg : Bool) (hs : s.length ≤ 1000000) : ∀ (m fu j n : Nat), s.length - j = m → m < fu → 0 ≤ i ∧ i ≤ j → j ≤ s.length → n ≤ 4611686018427387919 →
    qnumR_0 fu s i e j n neg = some (finI s i e (j + (numLoop (s.drop j) n).1) (sgn neg (numLoop (s.drop j) n).2)) := by
  intro m
  induction m with
  | zero =>
    intro fu j n hm hf hi hj hn
    cases fu with
    | zero => omega
    | succ fu =>
      rw [qnumR_step fu s i e j n neg hi hj hs hn]
      have hd : s.drop j = [] := List.drop_eq_nil_of_le (by omega)
      have hnone : s[j]? = none := List.getElem?_eq_none (by omega)
      rw [hd, hnone]
      simp [numLoop]
  | succ m ih =>
    intro fu j n hm hf hi hj hn
    cases fu with
    | zero => omega
    | succ fu =>
      have hlt : j < s.length := by omega
      rw [qnumR_step fu s i e j n neg hi hj hs hn, List.getElem?_eq_getElem hlt, List.drop_eq_getElem_cons hlt]
      simp only [Option.any_some, Option.getD_some, decide_eq_true_eq]
      by_cases hc : (48 ≤ s[j].toNat ∧ s[j].toNat ≤ 57) ∧ n ≤ 461168601842738791
      · rw [if_pos hc, ih fu (j + 1) _ (by omega) (by omega) (by omega) (by omega) (by omega), numLoop, if_pos hc]
        simp only
        rw [show j + ((numLoop (s.drop (j + 1)) (10 * n + (s[j].toNat - 48))).1 + 1) = j + 1 + (numLoop (s.drop (j + 1)) (10 * n + (s[j].toNat - 48))).1 by omega]
      · rw [if_neg hc, numLoop, if_neg hc]
        rfl
end Go.Proofs.Hz
open Go Go.Proofs
namespace Go.Proofs.Hz
theorem byteE_toNat {e : Int} (he : e = 32 ∨ e = 10) : ((byteE e).toNat : Int) = e ∧ ¬ isFig (byteE e) ∧ (byteE e = 32 ∨ byteE e = 10) := by
  rcases he with rfl | rfl
  · exact ⟨rfl, by unfold isFig; decide, .inl rfl⟩
  · exact ⟨rfl, by unfold isFig; decide, .inr rfl⟩
theorem fin_good {s r : List UInt8} {i e n : Int} {J : Nat} (he : e = 32 ∨ e = 10) (hn : inW n = true) (hs : s.drop i.toNat = itoaK n ++ byteE e :: r) (hJ : J = i.toNat + (itoaK n).length) : finI s i e J n = .tup [.int .i64 n, .int .i64 ((J : Int) + 1)] := by
  have hd : s.drop J = byteE e :: r := by rw [hJ, ← List.drop_drop, hs, List.drop_left]
  have hg : s[J]? = some (byteE e) := by
    have := congrArg (·[0]?) hd
    simpa using this
  unfold finI
  rw [if_pos ⟨by rw [hg]; simp [(byteE_toNat he).1], hn, by rw [hs, hJ, Nat.add_sub_cancel_left, List.take_left]⟩]
/-- What the walk comes to is what is read. -/
theorem fin_eq {s : List UInt8} {i e nn : Int} {J : Nat} (hi : 0 ≤ i) (he : e = 32 ∨ e = 10) (hJ : i.toNat ≤ J)
    (hc : ∀ n r, inW n = true → s.drop i.toNat = itoaK n ++ byteE e :: r → J = i.toNat + (itoaK n).length ∧ nn = n) : finI s i e J nn = .tup [.int .i64 (numR s i e).1, .int .i64 (numR s i e).2] := by
  obtain ⟨b1, b2, b3⟩ := byteE_toNat he
  by_cases hg : 0 ≤ (numR s i e).2
  · obtain ⟨r, w, d, m⟩ := numR_of hg
    obtain ⟨h1, h2⟩ := hc _ r w d
    rw [h2, fin_good he w d h1, m]
    congr 4
    omega
  · rw [numR_bad hg hi]
    unfold finI
    rw [if_neg]
    · rfl
    · rintro ⟨h1, h2, h3⟩
      cases hgj : s[J]? with
      | none => rw [hgj] at h1; simp at h1
      | some c =>
        rw [hgj] at h1
        simp only [Option.any_some, decide_eq_true_eq] at h1
        have hcb : c = byteE e := UInt8.toNat_inj.1 (by omega)
        have hlt : J < s.length := (List.getElem?_eq_some_iff.1 hgj).1
        have hdJ : s.drop J = byteE e :: s.drop (J + 1) := by
          rw [List.drop_eq_getElem_cons hlt, ← hcb]
          congr 1
          have := List.getElem?_eq_getElem hlt
          rw [hgj] at this
          exact (Option.some.inj this).symm
        have hsp : s.drop i.toNat = itoaK nn ++ byteE e :: s.drop (J + 1) := by
          rw [h3, ← hdJ]
          conv => lhs; rw [← List.take_append_drop (J - i.toNat) (s.drop i.toNat)]
          rw [List.drop_drop, show i.toNat + (J - i.toNat) = J by omega]
        rw [numR_at hsp h2 rfl b3] at hg
        exact hg (by simp only; omega)
theorem itoa_cases {n : Int} (h : inW n = true) : (n < 0 ∧ itoaK n = 45 :: Lib.decDigits n.natAbs) ∨ (0 ≤ n ∧ itoaK n = Lib.decDigits n.toNat) := by
  simp only [inW, decide_eq_true_eq] at h
  rw [itoaK_eq (by omega) (by omega)]
  unfold Lib.itoa
  by_cases hn : n < 0
  · rw [if_pos hn]; exact .inl ⟨hn, rfl⟩
  · rw [if_neg hn]; exact .inr ⟨by omega, rfl⟩
theorem numLoop_dec {u : Nat} {e : UInt8} {r : List UInt8} (hu : u ≤ 4611686018427387904) (he : ¬ isFig e) : numLoop (Lib.decDigits u ++ e :: r) 0 = ((Lib.decDigits u).length, u) := by
  have hv := dec_val u
  unfold valD at hv
  rw [numLoop_figs _ r e 0 (dec_mem u) he (by rw [hv]; exact hu), hv]
theorem qnumR_eq {s : List UInt8} {i e : Int} (h : numG s i e = true) : qnumR (s.length + 1) s i e = some (.tup [.int .i64 (numR s i e).1, .int .i64 (numR s i e).2]) := by
  simp only [numG, decide_eq_true_eq] at h
  obtain ⟨⟨hi, hil⟩, hs, he⟩ := h
  obtain ⟨iN, rfl⟩ : ∃ k : Nat, i = (k : Int) := ⟨i.toNat, by omega⟩
  obtain ⟨b1, b2, b3⟩ := byteE_toNat he
  have hgo : ∀ (neg : Bool) (j : Nat), iN ≤ j → j ≤ s.length →
      (∀ n r, inW n = true → s.drop iN = itoaK n ++ byteE e :: r → j + (numLoop (s.drop j) 0).1 = iN + (itoaK n).length ∧ sgn neg ((numLoop (s.drop j) 0).2 : Nat) = n) →
      qnumR_0 (s.length + 1) s iN e j (0 : Nat) neg = some (.tup [.int .i64 (numR s iN e).1, .int .i64 (numR s iN e).2]) := fun neg j h1 h2 hc => by
    rw [qnumR_run s iN e neg hs (s.length - j) (s.length + 1) j 0 rfl (by omega) (by omega) h2 (by omega)]
    rw [fin_eq hi he (by rw [Int.toNat_natCast]; omega) (by rw [Int.toNat_natCast]; exact hc)]
  unfold qnumR
  by_cases hlt : iN < s.length
  · have hdr := List.drop_eq_getElem_cons hlt
    rw [if_pos (by omega), if_pos hi, Int.toNat_natCast, List.getElem?_eq_getElem hlt, Option.bind_some]
    by_cases h45 : ((s[iN]).toNat : Int) = 45
    · have hc45 : s[iN] = 45 := UInt8.toNat_inj.1 (by rw [show (45 : UInt8).toNat = 45 from rfl]; omega)
      rw [if_pos h45, w64_p (by omega), decide_eq_true h45]
      refine hgo true (iN + 1) (by omega) (by omega) fun n r hn hsp => ?_
      rw [hdr, hc45] at hsp
      have hb : -4611686018427387904 ≤ n ∧ n ≤ 4611686018427387904 := by simpa [inW] using hn
      rcases itoa_cases hn with ⟨h1, h2⟩ | ⟨h1, h2⟩
      · rw [h2, List.cons_append] at hsp
        rw [(List.cons.inj hsp).2, numLoop_dec (by omega) b2, h2]
        refine ⟨by simp only [List.length_cons]; omega, ?_⟩
        simp only [sgn, if_true]
        omega
      · rw [h2] at hsp
        exfalso
        cases hd : Lib.decDigits n.toNat with
        | nil => exact dec_ne _ hd
        | cons c t =>
          rw [hd, List.cons_append] at hsp
          have := dec_mem n.toNat c (by rw [hd]; simp)
          rw [← (List.cons.inj hsp).1] at this
          unfold isFig at this
          simp at this
    · rw [if_neg h45, decide_eq_false h45]
      refine hgo false iN (Nat.le_refl _) (by omega) fun n r hn hsp => ?_
      have hb : -4611686018427387904 ≤ n ∧ n ≤ 4611686018427387904 := by simpa [inW] using hn
      rcases itoa_cases hn with ⟨h1, h2⟩ | ⟨h1, h2⟩
      · exfalso
        rw [h2, hdr, List.cons_append] at hsp
        rw [(List.cons.inj hsp).1] at h45
        exact h45 rfl
      · rw [h2] at hsp
        rw [hsp, numLoop_dec (by omega) b2, h2]
        refine ⟨rfl, ?_⟩
        simp only [sgn]
        simp; omega
  · rw [if_neg (by omega)]
    refine hgo false iN (Nat.le_refl _) (by omega) fun n r hn hsp => ?_
    rw [List.drop_eq_nil_of_le (by omega)] at hsp
    have := congrArg List.length hsp
    simp at this
theorem numR_ok (s : List UInt8) (i e : Int) (h : numG s i e = true) : Spec FF 46 [.str s, .int .i64 i, .int .u8 e] (.tup [.int .i64 (numR s i e).1, .int .i64 (numR s i e).2]) := qnumR_ok s i e (qnumR_eq h)
end Go.Proofs.Hz
