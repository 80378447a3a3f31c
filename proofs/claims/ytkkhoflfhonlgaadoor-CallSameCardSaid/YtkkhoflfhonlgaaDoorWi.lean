/-
  Chapter 15: rows are the same just if their texts are.
  Conditions: none.
-/
import Derived.Test.YtkkhoflfhonlgaaDoorWf
import Derived.Test.YtkkhoflfhonlgaaDoorWg
import Derived.Test.YtkkhoflfhonlgaaDoorWd
open Go Go.Proofs
namespace Go.Proofs.Hz
theorem kinds_no {P : Int → Prop} (h0 : P 0) (h1 : P 1) (h2 : P 2) (h3 : P 3) (h4 : P 4) (h5 : P 5) (h6 : P 6) (h7 : P 7) (h8 : P 8) (h9 : P 9) {no : Int} (h : 0 ≤ no ∧ no ≤ 9) : P no := by
  rcases kd_cases' no with rfl | rfl | rfl | rfl | rfl | rfl | rfl | rfl | rfl | rfl | hh
  all_goals first | assumption | (exfalso; omega)
/-- One round, with a text already. -/
theorem qprint_round1 {l : List Cl} {bl : Bool} {p : List UInt8} {i : Nat} {c : Cl} (hi : l[i]? = some c) (hlt : i < l.length) (hc : okC c = true) (hp : p.length ≤ 5000000) (k : Nat) :
    qprint_0v1 (k + 1) l bl p i = qprint_0v1 k l bl (p ++ lineF c) (w64 ((i : Int) + 1)) := by
  obtain ⟨c1, c2, c3⟩ := (okC_iff _).1 hc
  have la := itoaK_len c2
  have lb := itoaK_len c3
  rw [qprint_0v1, if_pos (by omega), if_pos (by omega)]
  simp only [Int.toNat_natCast, hi, Option.bind_some, letB, lineF, wordK]
  obtain ⟨no, a, b⟩ := c
  simp only at c1 c2 c3 la lb ⊢
  rcases kd_cases' no with rfl | rfl | rfl | rfl | rfl | rfl | rfl | rfl | rfl | rfl | hh
  case inr.inr.inr.inr.inr.inr.inr.inr.inr.inr => omega
  all_goals
    simp only [Int.reduceEq, if_true, if_false]
    repeat rw [if_pos (by first | omega | (simp only [roomB, List.length_append, List.length_cons, List.length_nil]; omega) | simp)]
    try simp [kdOf]
theorem qprint_round0 {l : List Cl} {bl : Bool} {i : Nat} {c : Cl} (hi : l[i]? = some c) (hlt : i < l.length) (hc : okC c = true) (k : Nat) :
    qprint_0 (k + 1) l bl i = qprint_0v1 k l bl (lineF c) (w64 ((i : Int) + 1)) := by
  obtain ⟨c1, c2, c3⟩ := (okC_iff _).1 hc
  have la := itoaK_len c2
  have lb := itoaK_len c3
  rw [qprint_0, if_pos (by omega), if_pos (by omega)]
  simp only [Int.toNat_natCast, hi, Option.bind_some, letB, lineF, wordK]
  obtain ⟨no, a, b⟩ := c
  simp only at c1 c2 c3 la lb ⊢
  rcases kd_cases' no with rfl | rfl | rfl | rfl | rfl | rfl | rfl | rfl | rfl | rfl | hh
  case inr.inr.inr.inr.inr.inr.inr.inr.inr.inr => omega
  all_goals
    simp only [Int.reduceEq, if_true, if_false]
    repeat rw [if_pos (by first | omega | (simp only [roomB, List.length_append, List.length_cons, List.length_nil]; omega) | simp)]
    try rfl
theorem qprint_0v1_eq (l : List Cl) (bl : Bool) (h : okP l = true) : ∀ (k i : Nat), i + k = l.length → printF (l.take i) ≠ [] → qprint_0v1 (k + 1) l bl (printF (l.take i)) i = some (.str (printF l)) := by
  obtain ⟨hn, hok⟩ := (okP_iff l).1 h
  have hp : ∀ i, (printF (l.take i)).length ≤ 5000000 := fun i => by
    have := printF_len (l := l.take i) fun c hc => hok c (List.mem_of_mem_take hc)
    simp only [List.length_take] at this
    omega
  intro k
  induction k with
  | zero =>
    intro i hi hne
    have hlen : 0 < (printF (l.take i)).length := List.length_pos_iff.2 hne
    have hpi := hp i
    rw [List.take_of_length_le (by omega)] at hne hlen hpi ⊢
    rw [qprint_0v1, if_neg (by omega)]
    repeat rw [if_pos (by first | exact hne | omega | (simp only [roomB, List.length_nil]; omega))]
  | succ k ih =>
    intro i hi hne
    have h1 : i < l.length := by omega
    have hc := hok _ (List.getElem_mem h1)
    rw [qprint_round1 (List.getElem?_eq_getElem h1) h1 hc (hp i), w64_at h1 (by omega), ← printF_take h1]
    exact ih (i + 1) (by omega) (by rw [printF_take h1]; simp [hne])
theorem lineF_ne (c : Cl) : lineF c ≠ [] := by simp [lineF]
theorem qprint_eq (l : List Cl) (bl : Bool) (h : okP l = true) : qprint (l.length + 1) l bl = some (.str (printF l)) := by
  obtain ⟨hn, hok⟩ := (okP_iff l).1 h
  unfold qprint
  cases l with
  | nil =>
    show qprint_0 (0 + 1) [] bl 0 = _
    rw [qprint_0, if_neg (by simp)]
    rfl
  | cons c l =>
    have hc := hok c (by simp)
    have h0 : (c :: l)[0]? = some c := rfl
    have := qprint_round0 (bl := bl) h0 (by simp) hc (c :: l).length
    rw [show ((0 : Nat) : Int) = 0 from rfl] at this
    rw [this, show w64 (0 + 1) = ((1 : Nat) : Int) by decide]
    have e := qprint_0v1_eq (c :: l) bl h l.length 1 (by simp; omega) (by simp [printF, lineF])
    have h1 : printF ((c :: l).take 1) = lineF c := by simp [printF]
    rw [h1] at e
    exact e
theorem print_ok (l : List Cl) (bl : Bool) (h : okP l = true) : Spec FF 22 [.im (l.map eC) bl] (.str (printF l)) := qprint_ok l bl (qprint_eq l bl h)
end Go.Proofs.Hz
open Go Go.Proofs
namespace Go.Proofs.Hz
/-- What figures tell. -/
def valD (l : List UInt8) : Nat := l.foldl (fun a d => 10 * a + (d.toNat - 48)) 0
theorem dec_step {u : Nat} (h : ¬ u < 10) : Lib.decDigits u = Lib.decDigits (u / 10) ++ [UInt8.ofNat (48 + u % 10)] := by
  conv => lhs; rw [Lib.decDigits]
  rw [dif_neg h]
theorem fig_nat {d : Nat} (h : d < 10) : (UInt8.ofNat (48 + d)).toNat = 48 + d := by
  rw [UInt8.toNat_ofNat']; omega
theorem dec_val (u : Nat) : valD (Lib.decDigits u) = u := by
  induction u using Nat.strongRecOn with
  | _ u ih =>
    by_cases h : u < 10
    · rw [Lib.decDigits_one h]
      simp only [valD, List.foldl_cons, List.foldl_nil, fig_nat h]
      omega
    · rw [dec_step h]
      have := ih (u / 10) (by omega)
      unfold valD at this ⊢
      rw [List.foldl_append, this, List.foldl_cons, List.foldl_nil, fig_nat (Nat.mod_lt _ (by decide))]
      omega
def isFig (c : UInt8) : Prop := 48 ≤ c.toNat ∧ c.toNat ≤ 57
theorem dec_mem (u : Nat) : ∀ c ∈ Lib.decDigits u, isFig c := by
  induction u using Nat.strongRecOn with
  | _ u ih =>
    intro c hc
    by_cases h : u < 10
    · rw [Lib.decDigits_one h, List.mem_singleton] at hc
      subst hc
      unfold isFig
      rw [fig_nat h]; omega
    · rw [dec_step h, List.mem_append, List.mem_singleton] at hc
      rcases hc with hc | rfl
      · exact ih _ (by omega) c hc
      · unfold isFig
        rw [fig_nat (Nat.mod_lt _ (by decide))]; omega
theorem dec_ne (u : Nat) : Lib.decDigits u ≠ [] := by
  by_cases h : u < 10
  · rw [Lib.decDigits_one h]; simp
  · rw [dec_step h]; simp
theorem itoa_mem (n : Int) : ∀ c ∈ Lib.itoa n, c = 45 ∨ isFig c := by
  intro c hc
  unfold Lib.itoa at hc
  split at hc
  · rcases List.mem_cons.1 hc with rfl | hc
    · exact .inl rfl
    · exact .inr (dec_mem _ c hc)
  · exact .inr (dec_mem _ c hc)
theorem itoa_no {n : Int} {b : UInt8} (h1 : b ≠ 45) (h2 : b.toNat < 48 ∨ 57 < b.toNat) : b ∉ Lib.itoa n := fun h => by
  rcases itoa_mem n b h with h | h
  · exact h1 h
  · unfold isFig at h; omega
theorem dec_head {u : Nat} {l : List UInt8} : Lib.decDigits u ≠ 45 :: l := fun h => by
  have := dec_mem u 45 (by rw [h]; simp)
  unfold isFig at this
  simp at this
theorem dec_inj {u v : Nat} (h : Lib.decDigits u = Lib.decDigits v) : u = v := by
  rw [← dec_val u, ← dec_val v, h]
theorem itoa_inj {n m : Int} (h : Lib.itoa n = Lib.itoa m) : n = m := by
  unfold Lib.itoa at h
  split at h <;> split at h
  · have := dec_inj (List.cons.inj h).2; omega
  · exact absurd h.symm dec_head
  · exact absurd h dec_head
  · have := dec_inj h; omega
/-- What stands ahead of the first such byte. -/
theorem cut_first {b : UInt8} : ∀ {u v x y : List UInt8}, b ∉ u → b ∉ v → u ++ b :: x = v ++ b :: y → u = v ∧ x = y
  | [], [], _, _, _, _, h => ⟨rfl, (List.cons.inj h).2⟩
  | [], c :: v, _, _, _, hv, h => absurd (by rw [(List.cons.inj h).1]; simp) hv
  | c :: u, [], _, _, hu, _, h => absurd (by rw [← (List.cons.inj h).1]; simp) hu
  | c :: u, d :: v, _, _, hu, hv, h => by
    obtain ⟨h1, h2⟩ := List.cons.inj h
    obtain ⟨h3, h4⟩ := cut_first (fun k => hu (by simp [k])) (fun k => hv (by simp [k])) h2
    exact ⟨by rw [h1, h3], h4⟩
theorem word_no {no : Int} (h : 0 ≤ no ∧ no ≤ 9) : (32 : UInt8) ∉ wordK no ∧ (10 : UInt8) ∉ wordK no ∧ wordK no ≠ [] := by
  rcases kd_cases' no with rfl | rfl | rfl | rfl | rfl | rfl | rfl | rfl | rfl | rfl | hh
  case inr.inr.inr.inr.inr.inr.inr.inr.inr.inr => omega
  all_goals decide
def wordNo (w : List UInt8) : Int :=
  if w = [115, 101, 110, 100] then 0 else if w = [114, 101, 99, 118] then 1 else if w = [116, 114, 121] then 2 else if w = [112, 117, 116] then 3
  else if w = [108, 111, 111, 107] then 4 else if w = [99, 117, 116] then 5 else if w = [115, 101, 116] then 6 else if w = [114, 101, 115, 101, 116] then 7
  else if w = [116, 101, 115, 116] then 8 else if w = [121, 105, 101, 108, 100] then 9 else -1
theorem wordNo_word {no : Int} (h : 0 ≤ no ∧ no ≤ 9) : wordNo (wordK no) = no := by
  rcases kd_cases' no with rfl | rfl | rfl | rfl | rfl | rfl | rfl | rfl | rfl | rfl | hh
  case inr.inr.inr.inr.inr.inr.inr.inr.inr.inr => omega
  all_goals decide
theorem wordK_inj {n m : Int} (hn : 0 ≤ n ∧ n ≤ 9) (hm : 0 ≤ m ∧ m ≤ 9) (h : wordK n = wordK m) : n = m := by
  rw [← wordNo_word hn, ← wordNo_word hm, h]
theorem itoaK_inj {n m : Int} (hn : -9223372036854775808 ≤ n ∧ n ≤ 9223372036854775807) (hm : -9223372036854775808 ≤ m ∧ m ≤ 9223372036854775807) (h : itoaK n = itoaK m) : n = m := by
  rw [itoaK_eq hn.1 hn.2, itoaK_eq hm.1 hm.2] at h
  exact itoa_inj h
theorem itoaK_no {n : Int} (hn : -9223372036854775808 ≤ n ∧ n ≤ 9223372036854775807) : (32 : UInt8) ∉ itoaK n ∧ (10 : UInt8) ∉ itoaK n ∧ itoaK n ≠ [] := by
  rw [itoaK_eq hn.1 hn.2]
  refine ⟨itoa_no (by decide) (by decide), itoa_no (by decide) (by decide), ?_⟩
  unfold Lib.itoa
  split
  · simp
  · exact dec_ne _
theorem lineF_inj {c d : Cl} (hc : okC c = true) (hd : okC d = true) {x y : List UInt8} (h : lineF c ++ x = lineF d ++ y) : c = d ∧ x = y := by
  obtain ⟨c1, c2, c3⟩ := (okC_iff _).1 hc
  obtain ⟨d1, d2, d3⟩ := (okC_iff _).1 hd
  have e : ∀ (c : Cl) (x : List UInt8), lineF c ++ x = wordK c.no ++ 32 :: (itoaK c.a ++ 32 :: (itoaK c.b ++ 10 :: x)) := fun c x => by simp [lineF]
  rw [e, e] at h
  obtain ⟨h1, h2⟩ := cut_first (word_no c1).1 (word_no d1).1 h
  obtain ⟨h3, h4⟩ := cut_first (itoaK_no c2).1 (itoaK_no d2).1 h2
  obtain ⟨h5, h6⟩ := cut_first (itoaK_no c3).2.1 (itoaK_no d3).2.1 h4
  exact ⟨Cl.ext' (wordK_inj c1 d1 h1) (itoaK_inj c2 d2 h3) (itoaK_inj c3 d3 h5), h6⟩
theorem printF_inj : ∀ {l m : List Cl}, (∀ c ∈ l, okC c = true) → (∀ c ∈ m, okC c = true) → printF l = printF m → l = m
  | [], [], _, _, _ => rfl
  | [], c :: m, _, _, h => by simp [printF, lineF] at h
  | c :: l, [], _, _, h => by simp [printF, lineF] at h
  | c :: l, d :: m, hl, hm, h => by
    obtain ⟨h1, h2⟩ := lineF_inj (x := printF l) (y := printF m) (hl c (by simp)) (hm d (by simp)) (by simpa [printF] using h)
    rw [h1, printF_inj (fun c h => hl c (by simp [h])) (fun c h => hm c (by simp [h])) h2]
theorem ok_written {l : List Cl} (h : writtenF l = true) : ∀ c ∈ l, okC c = true := fun c hc => by
  have := (writtenC_iff c).1 (List.all_eq_true.1 h c hc)
  exact (okC_iff c).2 ⟨this.1, by omega, by omega⟩
theorem okP_written {l : List Cl} (h : writtenF l = true) (hn : l.length ≤ 100000) : okP l = true := (okP_iff l).2 ⟨hn, ok_written h⟩
end Go.Proofs.Hz
open Go Go.Proofs
namespace Go.Proofs.Hz
def qsameC (l : List Cl) (_bl : Bool) (m : List Cl) (_bm : Bool) : Option AV :=
  if List.length l ≤ 1000000 then some (.bool (eqC l m)) else none
def qsameCW : List AV := [(vf 0), (vf 1)]
def qsameCV (l : List Cl) (bl : Bool) (m : List Cl) (bm : Bool) (σ : Nat → Nat) : Val := (valL ([]) ([.im (List.map eC l) bl, .im (List.map eC m) bm]) [] σ 0)
def qsameCX (l : List Cl) (bl : Bool) (m : List Cl) (bm : Bool) (_σ : Nat → Nat) : List AV := [(.im (List.map eC l) bl), (.im (List.map eC m) bm)]
def qsameCY (_l : List Cl) (_bl : Bool) (_m : List Cl) (_bm : Bool) (_σ : Nat → Nat) : List Blk := []
theorem qsameCE (l : List Cl) (bl : Bool) (m : List Cl) (bm : Bool) (σ : Nat → Nat) : qsameCW.map (gm (qsameCV l bl m bm σ)) = qsameCX l bl m bm σ := by kernel_rfl
theorem qsameCG (l : List Cl) (bl : Bool) (m : List Cl) (bm : Bool) (σ : Nat → Nat) : ([] : List Blk).map (gB (qsameCV l bl m bm σ)) = qsameCY l bl m bm σ := by kernel_rfl
theorem qsameC_ok (l : List Cl) (bl : Bool) (m : List Cl) (bm : Bool) {r0 : AV} (h : qsameC l bl m bm = some r0) : Spec FF 20 [(.im (List.map eC l) bl), (.im (List.map eC m) bm)] r0 := by
  unfold qsameC at h
  have hσ : ∀ i j : Nat, (fun i : Nat => i) i = (fun i : Nat => i) j → i = j := fun _ _ e => e
  exact spec_begin (ρ := qsameCV l bl m bm (fun i => i)) (xs := qsameCW) (by kernel_rfl) rfl rfl (by kernel_rfl) (fun z0 S => have H := Tok.start hσ S 0 0 2 0 ([]) ([.im (List.map eC l) bl, .im (List.map eC m) bm]) [] (.c (OkF.im eC_ok _ _) <| .c (OkF.im eC_ok _ _) <| .n) .n (qsameCE l bl m bm _) (qsameCG l bl m bm _); reqE h (fun h0 h => have H := H.t 1 [.bool (eqC l m)] |>.s [(vf 0), (vf 1)] (vt 0) (equal_ok l m bl bm h0); H.e [] h))

end Go.Proofs.Hz
open Go Go.Proofs
namespace Go.Proofs.Hz
theorem sameC_ok (l m : List Cl) (bl bm : Bool) (h : l.length ≤ 1000000) : Spec FF 20 [.im (l.map eC) bl, .im (m.map eC) bm] (.bool (eqC l m)) := qsameC_ok l bl m bm (by unfold qsameC; rw [if_pos h])
end Go.Proofs.Hz
open Go Go.Proofs
namespace Go.Proofs.Hz
def qSame (l : List Cl) (_bl : Bool) (m : List Cl) (_bm : Bool) : Option AV :=
  if (List.length l : Int) > 30 then
    some (.bool true)
  else
    if (List.length m : Int) > 30 then
      some (.bool true)
    else
      if List.length l ≤ 1000000 then if (!(writtenF l)) = true then
        some (.bool true)
      else
        if List.length m ≤ 1000000 then if (!(writtenF m)) = true then
          some (.bool true)
        else
          if l = [] then
            if okP l = true then if okP m = true then if ((eqC l m) == ((printF l) == (printF m))) = true then
              if ((eqC l m) == (eqC m l)) = true then
                if (eqC l l) = true then
                  if List.length ([(Cl.mk 0 0 0)]) ≤ 1000000 then some (.bool (!(eqC ([(Cl.mk 0 0 0)]) l))) else none
                else
                  none
              else
                none
            else
              none else none else none
          else
            if (List.length ([] : List Cl) + List.length l) * 24 ≤ roomB ∧ List.length ([] : List Cl) + List.length l ≤ roomB then if (List.length l + List.length [(Cl.mk 0 0 0)]) * 24 ≤ roomB ∧ List.length l + List.length [(Cl.mk 0 0 0)] ≤ roomB then if okP l = true then if okP m = true then if ((eqC l m) == ((printF l) == (printF m))) = true then
              if ((eqC l m) == (eqC m l)) = true then
                if (eqC l l) = true then
                  if List.length (l ++ [(Cl.mk 0 0 0)]) ≤ 1000000 then some (.bool (!(eqC (l ++ [(Cl.mk 0 0 0)]) l))) else none
                else
                  none
              else
                none
            else
              none else none else none else none else none else none else none
def qSameW : List AV := [(vf 0), (vf 1)]
def qSameV (l : List Cl) (bl : Bool) (m : List Cl) (bm : Bool) (σ : Nat → Nat) : Val := (valL ([]) ([.im (List.map eC l) bl, .im (List.map eC m) bm]) [] σ 0)
def qSameX (l : List Cl) (bl : Bool) (m : List Cl) (bm : Bool) (_σ : Nat → Nat) : List AV := [(.im (List.map eC l) bl), (.im (List.map eC m) bm)]
def qSameY (_l : List Cl) (_bl : Bool) (_m : List Cl) (_bm : Bool) (_σ : Nat → Nat) : List Blk := []
theorem qSameE (l : List Cl) (bl : Bool) (m : List Cl) (bm : Bool) (σ : Nat → Nat) : qSameW.map (gm (qSameV l bl m bm σ)) = qSameX l bl m bm σ := by kernel_rfl
theorem qSameG (l : List Cl) (bl : Bool) (m : List Cl) (bm : Bool) (σ : Nat → Nat) : ([] : List Blk).map (gB (qSameV l bl m bm σ)) = qSameY l bl m bm σ := by kernel_rfl
theorem qSame_ok (l : List Cl) (bl : Bool) (m : List Cl) (bm : Bool) {r0 : AV} (h : qSame l bl m bm = some r0) : Spec FF 10 [(.im (List.map eC l) bl), (.im (List.map eC m) bm)] r0 := by
  unfold qSame at h
  have hσ : ∀ i j : Nat, (fun i : Nat => i) i = (fun i : Nat => i) j → i = j := fun _ _ e => e
  exact spec_begin (ρ := qSameV l bl m bm (fun i => i)) (xs := qSameW) (by kernel_rfl) rfl rfl (by kernel_rfl) (fun z0 S => have H := Tok.start hσ S 0 0 2 0 ([]) ([.im (List.map eC l) bl, .im (List.map eC m) bm]) [] (.c (OkF.im eC_ok _ _) <| .c (OkF.im eC_ok _ _) <| .n) .n (qSameE l bl m bm _) (qSameG l bl m bm _); have H := H.t 2 [.int .i64 (List.length l : Int), .bool (decide ((List.length l : Int) > 30))] |>.r [(.bin .gtr (cT 0) (cI 30), (vt 1))] |>.s [] (.bool true) shown_ok |>.c (p := (.len 0 (cF 0), (vt 0))) (fun _ _ _ => fLen (e := eC) (l := l) (b := bl) (by kernel_rfl) (by kernel_rfl)); iteE h (fun h0 h => have H := H.m 1 true (decide_eq_true h0); H.e [] h) (fun h0 h => have H := H.t 4 [.int .i64 (List.length m : Int), .bool (decide ((List.length m : Int) > 30))] |>.r [(.bin .gtr (cT 2) (cI 30), (vt 3))] |>.m 1 false (decide_eq_false h0) |>.c (p := (.len 0 (cF 1), (vt 2))) (fun _ _ _ => fLen (e := eC) (l := m) (b := bm) (by kernel_rfl) (by kernel_rfl)); iteE h (fun h1 h => have H := H.m 3 true (decide_eq_true h1); H.e [] h) (fun h1 h => have H := H.m 3 false (decide_eq_false h1); reqE h (fun h2 h => have H := H.t 6 [.bool (writtenF l), .bool (!(writtenF l))] |>.r [(.un .not (cT 4), (vt 5))] |>.s [(vf 0)] (vt 4) (written_ok l bl h2); iteE h (fun h3 h => have H := H.m 5 true h3; H.e [] h) (fun h3 h => have H := H.m 5 false (bF h3); reqE h (fun h4 h => have H := H.t 8 [.bool (writtenF m), .bool (!(writtenF m))] |>.r [(.un .not (cT 6), (vt 7))] |>.s [(vf 1)] (vt 6) (written_ok m bm h4); iteE h (fun h5 h => have H := H.m 7 true h5; H.e [] h) (fun h5 h => have H := H.t 9 [.bool (eqC l m)] |>.m 7 false (bF h5) |>.s [(vf 0), (vf 1)] (vt 8) (sameC_ok l m bl bm h2); iteE h (fun h6 h => have H := H.c (p := (.app 23 3 24 (.c (.sl 0 0 0 3 (some 0))) (cF 0), (.sl 0 0 0 3 (some 0)))) (fun _ _ _ => fApp0s (x := (vf 0)) (c := bl) (show gm _ _ = _ from (show gm _ _ = .im (List.map eC l) bl from (by kernel_rfl)).trans (by rw [h6]; rfl)) (by decide)); reqE h (fun h7 h => have H := H.t 10 [.str (printF l)] |>.s [(vf 0)] (vt 9) (print_ok l bl h7); reqE h (fun h8 h => have H := H.t 13 [.str (printF m), .bool ((printF l) == (printF m)), .bool ((eqC l m) == ((printF l) == (printF m)))] |>.r [(.bin .eql (cT 9) (cT 10), (vt 11)), (.eqb false (cT 8) (cT 11), (vt 12))] |>.s [(vf 1)] (vt 10) (print_ok m bm h8); iteE h (fun h9 h => have H := H.t 15 [.bool (eqC m l), .bool ((eqC l m) == (eqC m l))] |>.r [(.eqb false (cT 8) (cT 13), (vt 14))] |>.m 12 true h9 |>.s [(vf 1), (vf 0)] (vt 13) (sameC_ok m l bm bl h4); iteE h (fun h10 h => have H := H.t 16 [.bool (eqC l l)] |>.m 14 true h10 |>.s [(vf 0), (vf 0)] (vt 15) (sameC_ok l l bl bl h2); iteE h (fun h11 h => have H := H.m 15 true h11; reqE h (fun h12 h => have H := H.t 18 [.bool (eqC ([(Cl.mk 0 0 0)]) l), .bool (!(eqC ([(Cl.mk 0 0 0)]) l))] |>.r [(.un .not (cT 16), (vt 17))] |>.s [(.im [[(.int .i64 0), (.int .i64 0), (.int .i64 0)]] false), (vf 0)] (vt 16) (sameC_ok ([(Cl.mk 0 0 0)]) l false bl h12); H.e [] h)) (fun _ h => nomatch h)) (fun _ h => nomatch h)) (fun _ h => nomatch h)))) (fun h6 h => reqE h (fun h7 h => have H := H.o 0 (3, List.map eC l) (.own eC_ok _) |>.a ⟨false, 3, 24, (.im [] true), (vf 0), 1000003⟩ (fun _ _ _ => fApp (e := eC) (l := ([] : List Cl)) (m := l) (cb := true) (cx := bl) (by kernel_rfl) (by kernel_rfl) (by kernel_rfl) h7 (.inr ⟨rfl, h6⟩) (by decide) (by decide) (by decide)); reqE h (fun h8 h => have H := H.o 1 (3, List.map eC (l ++ [(Cl.mk 0 0 0)])) (.own eC_ok _) |>.a ⟨true, 3, 24, (vf 1000003), (.im [[(.int .i64 0), (.int .i64 0), (.int .i64 0)]] true), 1001003⟩ (fun _ _ _ => fApp (e := eC) (l := l) (m := [(Cl.mk 0 0 0)]) (cb := false) (cx := true) (by kernel_rfl) (by kernel_rfl) (by kernel_rfl) h8 (.inl rfl) (by decide) (by decide) (by decide)); reqE h (fun h9 h => have H := H.t 10 [.str (printF l)] |>.s [(vf 0)] (vt 9) (print_ok l bl h9); reqE h (fun h10 h => have H := H.t 13 [.str (printF m), .bool ((printF l) == (printF m)), .bool ((eqC l m) == ((printF l) == (printF m)))] |>.r [(.bin .eql (cT 9) (cT 10), (vt 11)), (.eqb false (cT 8) (cT 11), (vt 12))] |>.s [(vf 1)] (vt 10) (print_ok m bm h10); iteE h (fun h11 h => have H := H.t 15 [.bool (eqC m l), .bool ((eqC l m) == (eqC m l))] |>.r [(.eqb false (cT 8) (cT 13), (vt 14))] |>.m 12 true h11 |>.s [(vf 1), (vf 0)] (vt 13) (sameC_ok m l bm bl h4); iteE h (fun h12 h => have H := H.t 16 [.bool (eqC l l)] |>.m 14 true h12 |>.s [(vf 0), (vf 0)] (vt 15) (sameC_ok l l bl bl h2); iteE h (fun h13 h => have H := H.m 15 true h13; reqE h (fun h14 h => have H := H.t 18 [.bool (eqC (l ++ [(Cl.mk 0 0 0)]) l), .bool (!(eqC (l ++ [(Cl.mk 0 0 0)]) l))] |>.r [(.un .not (cT 16), (vt 17))] |>.s [(vf 1001003), (vf 0)] (vt 16) (sameC_ok (l ++ [(Cl.mk 0 0 0)]) l false bl h14); H.e [] h)) (fun _ h => nomatch h)) (fun _ h => nomatch h)) (fun _ h => nomatch h)))))))))))))

end Go.Proofs.Hz
open Go Go.Proofs
namespace Go.Proofs.Hz
theorem eqC_print {l m : List Cl} (hl : writtenF l = true) (hm : writtenF m = true) : (eqC l m == ((printF l) == (printF m))) = true := by
  by_cases h : l = m
  · subst h; simp [eqC]
  · have h2 : printF l ≠ printF m := fun e => h (printF_inj (ok_written hl) (ok_written hm) e)
    simp [eqC, h, h2]
theorem eqC_comm (l m : List Cl) : (eqC l m == eqC m l) = true := by
  by_cases h : l = m
  · subst h; simp
  · simp [eqC, h, Ne.symm h]
theorem qSame_eq (l m : List Cl) (bl bm : Bool) : qSame l bl m bm = some (.bool true) := by
  unfold qSame
  by_cases h1 : (l.length : Int) > 30
  · rw [if_pos h1]
  by_cases h2 : (m.length : Int) > 30
  · rw [if_neg h1, if_pos h2]
  have n1 : l.length ≤ 30 := by omega
  have n2 : m.length ≤ 30 := by omega
  rw [if_neg h1, if_neg h2, if_pos (by omega)]
  by_cases h3 : writtenF l = true
  · rw [if_neg (by simp [h3]), if_pos (by omega)]
    by_cases h4 : writtenF m = true
    · rw [if_neg (by simp [h4])]
      have p1 := okP_written h3 (by omega)
      have p2 := okP_written h4 (by omega)
      have e3 : eqC l l = true := by simp [eqC]
      by_cases h5 : l = []
      · subst h5
        rw [if_pos rfl, if_pos p1, if_pos p2, if_pos (eqC_print h3 h4), if_pos (eqC_comm _ _), if_pos e3, if_pos (by simp)]
        simp [eqC]
      · rw [if_neg h5, if_pos (by simp only [roomB, List.length_nil]; omega), if_pos (by simp only [roomB, List.length_nil, List.length_cons]; omega), if_pos p1, if_pos p2, if_pos (eqC_print h3 h4), if_pos (eqC_comm _ _), if_pos e3, if_pos (by simp only [List.length_append, List.length_nil, List.length_cons]; omega)]
        simp [eqC]
    · rw [if_pos (by simp [h4])]
  · rw [if_pos (by simp [h3])]
theorem same_ok (l m : List Cl) (bl bm : Bool) : Spec FF 10 [.im (l.map eC) bl, .im (m.map eC) bm] (.bool true) := qSame_ok l bl m bm (qSame_eq l m bl bm)
end Go.Proofs.Hz
