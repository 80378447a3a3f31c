/-
  Chapter 15: a syscall's text, read: plainly. (Plain definitions, and what the shelf gives.)
  Conditions: none.
-/
import Derived.Test.YtkkhoflfhonlgaaDoorWg
open Go Go.Proofs
namespace Go.Proofs.Hz
/-- What figures tell. -/
def valD (l : List UInt8) : Nat := l.foldl (fun a d => 10 * a + (d.toNat - 48)) 0
theorem dec_step {u : Nat} (h : ¬ u < 10) : Lib.decDigits u = Lib.decDigits (u / 10) ++ [UInt8.ofNat (48 + u % 10)] := by
  conv => lhs; rw [Lib.decDigits]
  rw [dif_neg h]
theorem fig_nat {d : Nat} (h : d < 10) : (UInt8.ofNat (48 + d)).toNat = 48 + d := by
  rw [UInt8.toNat_ofNat']; omega
theorem dec_val (u : Nat) : valD (Lib.decDigits u) = u := by
  induction u using Nat.strongRecOn with
  | _ u ih =>
    by_cases h : u < 10
    · rw [Lib.decDigits_one h]
      simp only [valD, List.foldl_cons, List.foldl_nil, fig_nat h]
      omega
    · rw [dec_step h]
      have := ih (u / 10) (by omega)
      unfold valD at this ⊢
      rw [List.foldl_append, this, List.foldl_cons, List.foldl_nil, fig_nat (Nat.mod_lt _ (by decide))]
      omega
def isFig (c : UInt8) : Prop := 48 ≤ c.toNat ∧ c.toNat ≤ 57
theorem dec_mem (u : Nat) : ∀ c ∈ Lib.decDigits u, isFig c := by
  induction u using Nat.strongRecOn with
  | _ u ih =>
    intro c hc
    by_cases h : u < 10
    · rw [Lib.decDigits_one h, List.mem_singleton] at hc
      subst hc
      unfold isFig
      rw [fig_nat h]; omega
    · rw [dec_step h, List.mem_append, List.mem_singleton] at hc
      rcases hc with hc | rfl
      · exact ih _ (by omega) c hc
      · unfold isFig
        rw [fig_nat (Nat.mod_lt _ (by decide))]; omega
theorem dec_ne (u : Nat) : Lib.decDigits u ≠ [] := by
  by_cases h : u < 10
  · rw [Lib.decDigits_one h]; simp
  · rw [dec_step h]; simp
theorem itoa_mem (n : Int) : ∀ c ∈ Lib.itoa n, c = 45 ∨ isFig c := by
  intro c hc
  unfold Lib.itoa at hc
  split at hc
  · rcases List.mem_cons.1 hc with rfl | hc
    · exact .inl rfl
    · exact .inr (dec_mem _ c hc)
  · exact .inr (dec_mem _ c hc)
theorem itoa_no {n : Int} {b : UInt8} (h1 : b ≠ 45) (h2 : b.toNat < 48 ∨ 57 < b.toNat) : b ∉ Lib.itoa n := fun h => by
  rcases itoa_mem n b h with h | h
  · exact h1 h
  · unfold isFig at h; omega
theorem dec_head {u : Nat} {l : List UInt8} : Lib.decDigits u ≠ 45 :: l := fun h => by
  have := dec_mem u 45 (by rw [h]; simp)
  unfold isFig at this
  simp at this
theorem dec_inj {u v : Nat} (h : Lib.decDigits u = Lib.decDigits v) : u = v := by
  rw [← dec_val u, ← dec_val v, h]
theorem itoa_inj {n m : Int} (h : Lib.itoa n = Lib.itoa m) : n = m := by
  unfold Lib.itoa at h
  split at h <;> split at h
  · have := dec_inj (List.cons.inj h).2; omega
  · exact absurd h.symm dec_head
  · exact absurd h dec_head
  · have := dec_inj h; omega
/-- What stands ahead of the first such byte. -/
theorem cut_first {b : UInt8} : ∀ {u v x y : List UInt8}, b ∉ u → b ∉ v → u ++ b :: x = v ++ b :: y → u = v ∧ x = y
  | [], [], _, _, _, _, h => ⟨rfl, (List.cons.inj h).2⟩
  | [], c :: v, _, _, _, hv, h => absurd (by rw [(List.cons.inj h).1]; simp) hv
  | c :: u, [], _, _, hu, _, h => absurd (by rw [← (List.cons.inj h).1]; simp) hu
  | c :: u, d :: v, _, _, hu, hv, h => by
    obtain ⟨h1, h2⟩ := List.cons.inj h
    obtain ⟨h3, h4⟩ := cut_first (fun k => hu (by simp [k])) (fun k => hv (by simp [k])) h2
    exact ⟨by rw [h1, h3], h4⟩
theorem word_no {no : Int} (h : 0 ≤ no ∧ no ≤ 9) : (32 : UInt8) ∉ wordK no ∧ (10 : UInt8) ∉ wordK no ∧ wordK no ≠ [] := by
  rcases kd_cases' no with rfl | rfl | rfl | rfl | rfl | rfl | rfl | rfl | rfl | rfl | hh
  case inr.inr.inr.inr.inr.inr.inr.inr.inr.inr => omega
  all_goals decide
def wordNo (w : List UInt8) : Int :=
  if w = [115, 101, 110, 100] then 0 else if w = [114, 101, 99, 118] then 1 else if w = [116, 114, 121] then 2 else if w = [112, 117, 116] then 3
  else if w = [108, 111, 111, 107] then 4 else if w = [99, 117, 116] then 5 else if w = [115, 101, 116] then 6 else if w = [114, 101, 115, 101, 116] then 7
  else if w = [116, 101, 115, 116] then 8 else if w = [121, 105, 101, 108, 100] then 9 else -1
theorem wordNo_word {no : Int} (h : 0 ≤ no ∧ no ≤ 9) : wordNo (wordK no) = no := by
  rcases kd_cases' no with rfl | rfl | rfl | rfl | rfl | rfl | rfl | rfl | rfl | rfl | hh
  case inr.inr.inr.inr.inr.inr.inr.inr.inr.inr => omega
  all_goals decide
theorem wordK_inj {n m : Int} (hn : 0 ≤ n ∧ n ≤ 9) (hm : 0 ≤ m ∧ m ≤ 9) (h : wordK n = wordK m) : n = m := by
  rw [← wordNo_word hn, ← wordNo_word hm, h]
theorem itoaK_inj {n m : Int} (hn : -9223372036854775808 ≤ n ∧ n ≤ 9223372036854775807) (hm : -9223372036854775808 ≤ m ∧ m ≤ 9223372036854775807) (h : itoaK n = itoaK m) : n = m := by
  rw [itoaK_eq hn.1 hn.2, itoaK_eq hm.1 hm.2] at h
  exact itoa_inj h
theorem itoaK_no {n : Int} (hn : -9223372036854775808 ≤ n ∧ n ≤ 9223372036854775807) : (32 : UInt8) ∉ itoaK n ∧ (10 : UInt8) ∉ itoaK n ∧ itoaK n ≠ [] := by
  rw [itoaK_eq hn.1 hn.2]
  refine ⟨itoa_no (by decide) (by decide), itoa_no (by decide) (by decide), ?_⟩
  unfold Lib.itoa
  split
  · simp
  · exact dec_ne _
theorem lineF_inj {c d : Cl} (hc : okC c = true) (hd : okC d = true) {x y : List UInt8} (h : lineF c ++ x = lineF d ++ y) : c = d ∧ x = y := by
  obtain ⟨c1, c2, c3⟩ := (okC_iff _).1 hc
  obtain ⟨d1, d2, d3⟩ := (okC_iff _).1 hd
  have e : ∀ (c : Cl) (x : List UInt8), lineF c ++ x = wordK c.no ++ 32 :: (itoaK c.a ++ 32 :: (itoaK c.b ++ 10 :: x)) := fun c x => by simp [lineF]
  rw [e, e] at h
  obtain ⟨h1, h2⟩ := cut_first (word_no c1).1 (word_no d1).1 h
  obtain ⟨h3, h4⟩ := cut_first (itoaK_no c2).1 (itoaK_no d2).1 h2
  obtain ⟨h5, h6⟩ := cut_first (itoaK_no c3).2.1 (itoaK_no d3).2.1 h4
  exact ⟨Cl.ext' (wordK_inj c1 d1 h1) (itoaK_inj c2 d2 h3) (itoaK_inj c3 d3 h5), h6⟩
theorem printF_inj : ∀ {l m : List Cl}, (∀ c ∈ l, okC c = true) → (∀ c ∈ m, okC c = true) → printF l = printF m → l = m
  | [], [], _, _, _ => rfl
  | [], c :: m, _, _, h => by simp [printF, lineF] at h
  | c :: l, [], _, _, h => by simp [printF, lineF] at h
  | c :: l, d :: m, hl, hm, h => by
    obtain ⟨h1, h2⟩ := lineF_inj (x := printF l) (y := printF m) (hl c (by simp)) (hm d (by simp)) (by simpa [printF] using h)
    rw [h1, printF_inj (fun c h => hl c (by simp [h])) (fun c h => hm c (by simp [h])) h2]
theorem ok_written {l : List Cl} (h : writtenF l = true) : ∀ c ∈ l, okC c = true := fun c hc => by
  have := (writtenC_iff c).1 (List.all_eq_true.1 h c hc)
  exact (okC_iff c).2 ⟨this.1, by omega, by omega⟩
theorem okP_written {l : List Cl} (h : writtenF l = true) (hn : l.length ≤ 100000) : okP l = true := (okP_iff l).2 ⟨hn, ok_written h⟩
end Go.Proofs.Hz
open Go Go.Proofs
namespace Go.Proofs.Hz
/-- A text as a row's element. -/
def eT (t : List UInt8) : List AV := [.str t]
theorem eT_ok : Enc eT 1 := ⟨fun _ => rfl, fun _ => rfl, fun t => by simp [eT, beqL, AV.beq]⟩
/-- The number that is read, whether one is. -/
def atoiV (s : List UInt8) : Int := match Lib.atoiAll s with
  | .ok v => v
  | Go.Lib.NumEnd.syntax => 0
  | .range => Lib.atoiSat s
def atoiOk (s : List UInt8) : Bool := match Lib.atoiAll s with
  | .ok _ => true
  | _ => false
/-- Is it a number that is written so? -/
def numOk (s : List UInt8) : Bool := atoiOk s && (inW (atoiV s) && itoaK (atoiV s) == s)
def endsF (s : List UInt8) : Bool := s.getLast? == some 10
def cutT (s : List UInt8) : List UInt8 := if endsF s = true then s.dropLast else s
def lineC (s : List UInt8) : Cl :=
  if endsF s = true then match splitC 32 (cutT s) with
    | [w, a, b] => ⟨wordNo w, atoiV a, atoiV b⟩
    | _ => ⟨0, 0, 0⟩
  else ⟨0, 0, 0⟩
def lineOk (s : List UInt8) : Bool :=
  endsF s && match splitC 32 (cutT s) with
    | [w, a, b] => decide (0 ≤ wordNo w) && (numOk a && numOk b)
    | _ => false
theorem atoi_ok1 (s : List UInt8) (hl : s.length ≤ 1000000) (h : atoiOk s = true) : Spec FF 52 [.str s] (.tup [.int .i64 (atoiV s), .nili]) := ⟨1, by
  show kAtoi [.str s] = _
  unfold atoiOk at h
  simp only [kAtoi, atoiV]
  rw [if_pos (by omega)]
  split at h
  · rename_i v hv; rw [hv]
  · cases h⟩
theorem atoi_ok0 (s : List UInt8) (hl : s.length ≤ 1000000) (h : ¬ atoiOk s = true) : Spec FF 52 [.str s] (.tup [.int .i64 (atoiV s), .ifv]) := ⟨1, by
  show kAtoi [.str s] = _
  unfold atoiOk at h
  simp only [kAtoi, atoiV]
  rw [if_pos (by omega)]
  split at h
  · exact absurd rfl h
  · rename_i hv
    cases hq : Lib.atoiAll s
    · exact absurd hq (hv _)
    · rfl
    · rfl⟩
theorem split_ok (s : List UInt8) (hl : s.length ≤ 1000000) : Spec FF 42 [.str s, .str [32]] (.im ((splitC 32 s).map eT) true) := ⟨1, by
  show kSplit [.str s, .str [32]] = _
  simp only [kSplit]
  rw [if_pos (by omega)]
  rfl⟩

/-! ### Numbers' figures, read -/
theorem fig_foldl_ge : ∀ (l : List UInt8) (a : Nat), a ≤ l.foldl (fun a d => 10 * a + (d.toNat - 48)) a
  | [], a => Nat.le_refl a
  | d :: l, a => by
    have := fig_foldl_ge l (10 * a + (d.toNat - 48))
    rw [List.foldl_cons]
    omega
theorem parse_figs : ∀ (l : List UInt8) (a : Nat), (∀ c ∈ l, isFig c) → l.foldl (fun a d => 10 * a + (d.toNat - 48)) a ≤ 9223372036854775808 → Lib.parseUint10 a l = .ok (l.foldl (fun a d => 10 * a + (d.toNat - 48)) a)
  | [], a, _, _ => rfl
  | d :: l, a, h, hl => by
    have hd := h d (by simp)
    unfold isFig at hd
    have hg := fig_foldl_ge l (10 * a + (d.toNat - 48))
    rw [List.foldl_cons] at hl ⊢
    unfold Lib.parseUint10
    rw [if_pos hd, if_neg (by omega), if_neg (by omega), show a * 10 + (d.toNat - 48) = 10 * a + (d.toNat - 48) by omega]
    exact parse_figs l _ (fun c hc => h c (by simp [hc])) hl
theorem mag_dec {u : Nat} (h : u ≤ 9223372036854775807) : Lib.parseMag (Lib.decDigits u) = .ok u := by
  have hv := dec_val u
  unfold valD at hv
  unfold Lib.parseMag
  rw [if_neg (dec_ne u), parse_figs _ 0 (dec_mem u) (by rw [hv]; omega), hv]
theorem atoi_itoa {n : Int} (h : inW n = true) : Lib.atoiAll (itoaK n) = .ok n := by
  simp only [inW, decide_eq_true_eq] at h
  rw [itoaK_eq (by omega) (by omega)]
  unfold Lib.itoa
  split
  · rename_i hn
    unfold Lib.atoiAll
    simp only [show (45 : UInt8).toNat = 45 from rfl, or_true, if_true, mag_dec (u := n.natAbs) (by omega), not_true, false_and, if_false, true_and]
    rw [if_neg (by omega)]
    congr 1
    omega
  · rename_i hn
    cases hd : Lib.decDigits n.toNat with
    | nil => exact absurd hd (dec_ne _)
    | cons c r =>
      have hc := dec_mem n.toNat c (by rw [hd]; simp)
      unfold isFig at hc
      have hm := mag_dec (u := n.toNat) (by omega)
      rw [hd] at hm
      unfold Lib.atoiAll
      simp only
      rw [if_neg (by omega), hm]
      simp only
      rw [if_neg (by omega), if_neg (by omega), if_neg (by omega)]
      congr 1
      omega
theorem num_itoa {n : Int} (h : inW n = true) : numOk (itoaK n) = true ∧ atoiV (itoaK n) = n := by
  have e := atoi_itoa h
  have hv : atoiV (itoaK n) = n := by unfold atoiV; rw [e]
  have ho : atoiOk (itoaK n) = true := by unfold atoiOk; rw [e]
  exact ⟨by simp [numOk, hv, ho, h], hv⟩
theorem num_of {s : List UInt8} (h : numOk s = true) : inW (atoiV s) = true ∧ itoaK (atoiV s) = s := by
  simp only [numOk, Bool.and_eq_true, beq_iff_eq] at h
  exact h.2

/-! ### A text in parts, put together -/
def joinC (c : UInt8) : List (List UInt8) → List UInt8
  | [] => []
  | [p] => p
  | p :: ps => p ++ c :: joinC c ps
theorem splitC_join (c : UInt8) : ∀ l, joinC c (splitC c l) = l
  | [] => rfl
  | x :: l => by
    have ih := splitC_join c l
    unfold splitC
    split
    · rename_i hx
      subst hx
      cases hs : splitC x l with
      | nil => exact absurd hs (splitC_ne x l)
      | cons p ps => rw [hs] at ih; simp only [joinC, List.nil_append]; rw [ih]
    · split
      · rename_i p ps hs
        rw [hs] at ih
        cases ps with
        | nil => simp only [joinC] at ih ⊢; rw [ih]
        | cons q qs => simp only [joinC, List.cons_append] at ih ⊢; rw [ih]
      · rename_i hs; exact absurd hs (splitC_ne c l)
theorem split_three {c : UInt8} {l a b d : List UInt8} (h : splitC c l = [a, b, d]) : l = a ++ c :: (b ++ c :: d) := by
  have := splitC_join c l
  rw [h] at this
  simpa [joinC] using this.symm
theorem split_len {c : UInt8} : ∀ {l p : List UInt8}, p ∈ splitC c l → p.length ≤ l.length
  | [], p, h => by
    simp only [splitC, List.mem_singleton] at h
    subst h; simp
  | x :: l, p, h => by
    unfold splitC at h
    split at h
    · rcases List.mem_cons.1 h with rfl | h
      · simp
      · have := split_len h
        simp only [List.length_cons]; omega
    · split at h
      · rename_i q qs hs
        rcases List.mem_cons.1 h with rfl | h
        · have := split_len (l := l) (p := q) (by rw [hs]; simp)
          simp only [List.length_cons]; omega
        · have := split_len (l := l) (p := p) (by rw [hs]; simp [h])
          simp only [List.length_cons]; omega
      · rename_i hs; exact absurd hs (splitC_ne c l)

/-! ### Lines -/
theorem endsF_iff {s : List UInt8} : endsF s = true ↔ ∃ t, s = t ++ [10] := by
  unfold endsF
  rw [beq_iff_eq, List.getLast?_eq_some_iff]
theorem cutT_end (t : List UInt8) : cutT (t ++ [10]) = t := by
  unfold cutT
  rw [if_pos (endsF_iff.2 ⟨t, rfl⟩), List.dropLast_concat]
theorem cutT_len (s : List UInt8) : (cutT s).length ≤ s.length := by
  unfold cutT
  split
  · rw [List.length_dropLast]; omega
  · exact Nat.le_refl _
theorem wordNo_cases (w : List UInt8) : (0 ≤ wordNo w ∧ wordNo w ≤ 9 ∧ wordK (wordNo w) = w) ∨ wordNo w = -1 := by
  unfold wordNo
  (repeat' split) <;> first | exact .inr rfl | (rename_i h; subst h; exact .inl ⟨by decide, by decide, by decide⟩)
/-- What is read as a syscall is that syscall's text. -/
theorem line_of {s : List UInt8} (h : lineOk s = true) : writtenC (lineC s) = true ∧ lineF (lineC s) = s := by
  simp only [lineOk, Bool.and_eq_true] at h
  obtain ⟨h1, h2⟩ := h
  obtain ⟨t, rfl⟩ := endsF_iff.1 h1
  unfold lineC
  rw [if_pos h1]
  rw [cutT_end] at h2 ⊢
  split at h2
  · rename_i w a b hs
    simp only [Bool.and_eq_true, decide_eq_true_eq] at h2
    obtain ⟨h3, h4, h5⟩ := h2
    obtain ⟨a1, a2⟩ := num_of h4
    obtain ⟨b1, b2⟩ := num_of h5
    rcases wordNo_cases w with ⟨w1, w2, w3⟩ | hw
    · refine ⟨by simp [writtenC, w1, w2, a1, b1], ?_⟩
      simp only [lineF, w3, a2, b2]
      rw [split_three hs]
      simp
    · omega
  · cases h2
/-- A syscall's text is read as that syscall. -/
theorem line_to {c : Cl} (h : writtenC c = true) : lineOk (lineF c) = true ∧ lineC (lineF c) = c := by
  have h0 : (0 ≤ c.no ∧ c.no ≤ 9) ∧ inW c.a = true ∧ inW c.b = true := by simpa [writtenC] using h
  obtain ⟨h1, h2, h3⟩ := h0
  obtain ⟨n1, n2⟩ := num_itoa h2
  obtain ⟨n3, n4⟩ := num_itoa h3
  have k2 : -9223372036854775808 ≤ c.a ∧ c.a ≤ 9223372036854775807 := by simp only [inW, decide_eq_true_eq] at h2; omega
  have k3 : -9223372036854775808 ≤ c.b ∧ c.b ≤ 9223372036854775807 := by simp only [inW, decide_eq_true_eq] at h3; omega
  have e : lineF c = (wordK c.no ++ 32 :: (itoaK c.a ++ 32 :: itoaK c.b)) ++ [10] := by simp [lineF]
  have he : endsF (lineF c) = true := endsF_iff.2 ⟨_, e⟩
  have hs : splitC 32 (cutT (lineF c)) = [wordK c.no, itoaK c.a, itoaK c.b] := by
    rw [e, cutT_end, splitC_at (word_no h1).1, splitC_at (itoaK_no k2).1, splitC_none (itoaK_no k3).1]
  refine ⟨?_, ?_⟩
  · unfold lineOk
    rw [he, hs]
    simp [wordNo_word h1, h1.1, n1, n3]
  · unfold lineC
    rw [if_pos he, hs]
    simp [wordNo_word h1, n2, n4]
end Go.Proofs.Hz
