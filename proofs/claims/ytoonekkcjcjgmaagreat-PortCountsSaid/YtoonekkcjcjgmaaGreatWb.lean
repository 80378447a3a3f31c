/-
  Chapter 14: walks through functions (part b), written by a program of our own (wip/tools).
  Conditions: none.
-/
import Derived.Test.YtoonekkcjcjgmaaGreatWa
open Go Go.Proofs
namespace Go.Proofs.Hz
theorem w64i {x : Int} (h : -9223372036854775808 ≤ x ∧ x ≤ 9223372036854775807) : w64 x = x := by
  unfold w64 IntKind.wrap; simp [IntKind.signed, IntKind.bits]; omega
theorem w64_nat {n : Nat} (h : n ≤ 1000000) : w64 ((n : Int) + 1) = ((n + 1 : Nat) : Int) := by
  rw [w64i (by omega)]; omega
theorem nearF_ok (n : Int) : Spec FF 171 [.int .i64 n] (.bool (nearF n)) := qnear_ok n (by
  unfold qnear nearF
  split
  · congr 2
    rw [Bool.eq_iff_iff]; simp; omega
  · rw [decide_eq_false (by omega)])
theorem belowF_ok (n m : Int) : Spec FF 56 [.int .i64 n, .int .i64 m] (.bool (belowF n m)) := qbelow_ok n m (by
  unfold qbelow belowF
  split
  · congr 2
    rw [Bool.eq_iff_iff]; simp; omega
  · rw [decide_eq_false (by omega)])
theorem isPortF_ok (p : Int) : Spec FF 83 [.int .i64 p] (.bool (isPortF p)) := qisPort_ok p (by
  unfold qisPort isPortF
  split
  · congr 2
    rw [Bool.eq_iff_iff]; simp; omega
  · rw [decide_eq_false (by omega)])
theorem mod_ok (a b : Int) (h : b = 2097152) : Spec FF 111 [.int .i64 a, .int .i64 b] (.int .i64 (modF a b)) := by
  subst h
  exact qmodA_ok a (by
    unfold qmodA modF
    split <;> rfl)
theorem cut1_ok (w : Int) : Spec FF 110 [.int .i64 w, .int .i64 1] (.int .i64 (idxC w)) := qcut1_ok w rfl
theorem small2_ok (w : List Int) (bw : Bool) (g : List Int) (bg bad : Bool) : Spec FF 101 [.agg [.im (w.map eI) bw, .im (g.map eI) bg, .bool bad], .int .i64 60] (.bool (small2F w g)) := qsmall2_ok w bw g bg bad (by
  unfold qsmall2 small2F
  split
  · congr 2
    rw [Bool.eq_iff_iff]; simp; omega
  · rw [decide_eq_false (by omega)])
theorem small2_len {w g : List Int} (h : small2F w g = true) : g.length ≤ 61 ∧ w.length ≤ 368 := by
  simp only [small2F, decide_eq_true_eq] at h
  omega
theorem qright2_0_eq (w : List Int) (bw : Bool) (g : List Int) (bg bad : Bool) (hg : 1 ≤ g.length ∧ g.length ≤ 61) : ∀ (k i : Nat), i + k = g.length → (g.take i).all (fun x => decide (0 ≤ x ∧ x ≤ 2)) = true →
    qright2_0 (k + 1) w bw g bg bad i = some (.bool (g.all fun x => decide (0 ≤ x ∧ x ≤ 2))) := by
  have hl : w64 ((List.length g : Int) - 1) = (List.length g : Int) - 1 := w64i (by omega)
  intro k
  induction k with
  | zero =>
    intro i hi ht
    rw [qright2_0, hl, if_neg (by omega)]
    rw [List.take_of_length_le (by omega)] at ht
    rw [ht]
  | succ k ih =>
    intro i hi ht
    have h1 : i < g.length := by omega
    have bad' : ¬ (0 ≤ g[i] ∧ g[i] ≤ 2) → (g.all fun x => decide (0 ≤ x ∧ x ≤ 2)) = false := fun h => by
      cases hq : g.all fun x => decide (0 ≤ x ∧ x ≤ 2) with
      | false => rfl
      | true =>
        have := List.all_eq_true.1 hq _ (List.getElem_mem h1)
        simp only [decide_eq_true_eq] at this
        exact absurd this h
    rw [qright2_0, hl, if_pos (by omega), if_pos (by omega), Int.toNat_natCast, List.getElem?_eq_getElem h1, Option.bind_some]
    by_cases h2 : g[i] < 0
    · rw [if_pos h2, bad' (by omega)]
    by_cases h3 : g[i] > 2
    · rw [if_neg h2, if_pos h3, bad' (by omega)]
    rw [if_neg h2, if_neg h3, w64_nat (by omega)]
    refine ih (i + 1) (by omega) ?_
    rw [List.take_succ_eq_append_getElem h1, List.all_append, ht]
    simp; omega
theorem right2_ok (w : List Int) (bw : Bool) (g : List Int) (bg bad : Bool) (h : small2F w g = true) : Spec FF 102 [.agg [.im (w.map eI) bw, .im (g.map eI) bg, .bool bad]] (.bool (right2F w g)) := qright2_ok (fu := g.length + 1) w bw g bg bad (by
  obtain ⟨h1, h2⟩ := small2_len h
  have hl : w64 ((List.length g : Int) - 1) = (List.length g : Int) - 1 := w64i (by omega)
  have hm : w64 (128 + w64 (4 * ((List.length g : Int) - 1))) = 128 + 4 * ((List.length g : Int) - 1) := by
    rw [w64i (x := 4 * ((List.length g : Int) - 1)) (by omega), w64i (by omega)]
  unfold qright2 right2F
  rw [hl, hm]
  by_cases c1 : (List.length g : Int) - 1 < 1
  · rw [if_pos c1, decide_eq_false (by omega)]; rfl
  rw [if_neg c1, if_neg (by omega)]
  by_cases c2 : (List.length w : Int) = 128 + 4 * ((List.length g : Int) - 1)
  · rw [if_pos c2, decide_eq_true (by omega), Bool.true_and]
    have h0 : 0 < g.length := by omega
    rw [show Int.toNat 0 = 0 from rfl, List.getElem?_eq_getElem h0, Option.bind_some]
    by_cases c3 : g[0] = 0
    · rw [if_pos c3, decide_eq_true (by rw [c3]), Bool.true_and]
      exact qright2_0_eq w bw g bg bad ⟨by omega, h1⟩ g.length 0 (by omega) rfl
    · rw [if_neg c3, decide_eq_false (by simpa using c3)]; rfl
  · rw [if_neg c2, decide_eq_false (by omega)]; rfl)
theorem qin_0_eq (l : List Int) (bl : Bool) (n : Int) (hl : l.length ≤ 1000000) : ∀ (k i : Nat), i + k = l.length → n ∉ l.take i → qin_0 (k + 1) l bl n i = some (.bool (inF l n)) := by
  intro k
  induction k with
  | zero =>
    intro i hi ht
    rw [qin_0, if_neg (by omega)]
    rw [List.take_of_length_le (by omega)] at ht
    unfold inF
    rw [decide_eq_false ht]
  | succ k ih =>
    intro i hi ht
    have h1 : i < l.length := by omega
    rw [qin_0, if_pos (by omega), if_pos (by omega), Int.toNat_natCast, List.getElem?_eq_getElem h1, Option.bind_some]
    by_cases h2 : l[i] = n
    · rw [if_pos h2]
      unfold inF
      rw [decide_eq_true (by rw [← h2]; exact List.getElem_mem h1)]
    · rw [if_neg h2, w64_nat (by omega)]
      refine ih (i + 1) (by omega) ?_
      rw [List.take_succ_eq_append_getElem h1, List.mem_append, List.mem_singleton]
      rintro (h | h)
      · exact ht h
      · exact h2 h.symm
theorem in_ok (l : List Int) (bl : Bool) (n : Int) (h : l.length ≤ 1000000) : Spec FF 36 [.im (l.map eI) bl, .int .i64 n] (.bool (inF l n)) := qin_ok (fu := l.length + 1) l bl n (by unfold qin; exact qin_0_eq l bl n h l.length 0 (by omega) (by simp))
end Go.Proofs.Hz
open Go Go.Proofs
namespace Go.Proofs.Hz
def qidxR (w : Int) : Option AV :=
  some (.int .i64 (IntKind.wrap .i64 (Int.tdiv (modF w 2097152) 2)))
def qidxRW : List AV := [(vt 0)]
def qidxRV (w : Int) (σ : Nat → Nat) : Val := (valL ([.int .i64 w]) ([]) [] σ 0)
def qidxRX (w : Int) (_σ : Nat → Nat) : List AV := [(.int .i64 w)]
def qidxRY (_w : Int) (_σ : Nat → Nat) : List Blk := []
theorem qidxRE (w : Int) (σ : Nat → Nat) : qidxRW.map (gm (qidxRV w σ)) = qidxRX w σ := by kernel_rfl
theorem qidxRG (w : Int) (σ : Nat → Nat) : ([] : List Blk).map (gB (qidxRV w σ)) = qidxRY w σ := by kernel_rfl
theorem qidxR_ok (w : Int) {r0 : AV} (h : qidxR w = some r0) : Spec FF 65 [(.int .i64 w)] r0 := by
  unfold qidxR at h
  have hσ : ∀ i j : Nat, (fun i : Nat => i) i = (fun i : Nat => i) j → i = j := fun _ _ e => e
  exact spec_begin (ρ := qidxRV w (fun i => i)) (xs := qidxRW) (by kernel_rfl) rfl rfl (by kernel_rfl) (fun z0 S => have H := Tok.start hσ S 0 1 0 0 ([.int .i64 w]) ([]) [] (.n) .n (qidxRE w _) (qidxRG w _); have H := H.t 3 [.int .i64 (modF w 2097152), .int .i64 (IntKind.wrap .i64 (Int.tdiv (modF w 2097152) 2))] |>.s [(vt 0), (.int .i64 2097152)] (vt 1) (mod_ok w 2097152 (by decide)) |>.c (p := (.bin .quo (cT 1) (cI 2), (vt 2))) (fun _ _ _ => fQuo (k := .i64) (a := (modF w 2097152)) (b := 2) (by kernel_rfl) (by kernel_rfl) (by decide) (by kernel_rfl)); H.e [] h)

def qidxC (w : Int) : Option AV :=
  some (.int .i64 (idxC w))
def qidxCW : List AV := [(vt 0)]
def qidxCV (w : Int) (σ : Nat → Nat) : Val := (valL ([.int .i64 w]) ([]) [] σ 0)
def qidxCX (w : Int) (_σ : Nat → Nat) : List AV := [(.int .i64 w)]
def qidxCY (_w : Int) (_σ : Nat → Nat) : List Blk := []
theorem qidxCE (w : Int) (σ : Nat → Nat) : qidxCW.map (gm (qidxCV w σ)) = qidxCX w σ := by kernel_rfl
theorem qidxCG (w : Int) (σ : Nat → Nat) : ([] : List Blk).map (gB (qidxCV w σ)) = qidxCY w σ := by kernel_rfl
theorem qidxC_ok (w : Int) {r0 : AV} (h : qidxC w = some r0) : Spec FF 64 [(.int .i64 w)] r0 := by
  unfold qidxC at h
  have hσ : ∀ i j : Nat, (fun i : Nat => i) i = (fun i : Nat => i) j → i = j := fun _ _ e => e
  exact spec_begin (ρ := qidxCV w (fun i => i)) (xs := qidxCW) (by kernel_rfl) rfl rfl (by kernel_rfl) (fun z0 S => have H := Tok.start hσ S 0 1 0 0 ([.int .i64 w]) ([]) [] (.n) .n (qidxCE w _) (qidxCG w _); have H := H.t 2 [.int .i64 (idxC w)] |>.s [(vt 0), (.int .i64 1)] (vt 1) (cut1_ok w); H.e [] h)

def qcore_0 : Nat → CoS → Int → Option AV
  | 0, _, _ => none
  | fu + 1, c, p0 =>
    if p0 < (List.length c.f : Int) then
      if 0 ≤ p0 then Option.bind (c.f[Int.toNat p0]?) fun x2 =>
      if (!(nearF x2.r0)) = true then
        some (.bool false)
      else
        if (!(nearF x2.r1)) = true then
          some (.bool false)
        else
          if (!(nearF x2.r2)) = true then
            some (.bool false)
          else
            if (!(nearF x2.r3)) = true then
              some (.bool false)
            else
              if (!(nearF x2.r4)) = true then
                some (.bool false)
              else
                if (!(nearF x2.r5)) = true then
                  some (.bool false)
                else
                  if (!(nearF x2.r6)) = true then
                    some (.bool false)
                  else
                    if (!(nearF x2.r7)) = true then
                      some (.bool false)
                    else
                      qcore_0 fu c (w64 (p0 + 1)) else none
    else
      some (.bool true)
def qcore_0W : List AV := [(.ptr 0 0), (vt 0)]
def qcore_0C : List Blk := [.cells ([(vf 0)] ++ vT 1 5 ++ [(vf 1)]) false 57]
def qcore_0V (c : CoS) (p0 : Int) (σ : Nat → Nat) : Val := (valL ([.int .i64 p0, .int .i64 c.v, .int .i64 c.e, .int .i64 c.x0, .int .i64 c.x1, .int .i64 c.x2]) ([.im (List.map eFr c.f) c.bf, .im (List.map eI c.ret) c.bret]) [] σ 1)
def qcore_0X (_c : CoS) (p0 : Int) (σ : Nat → Nat) : List AV := [(.ptr (σ 0) 0), (.int .i64 p0)]
def qcore_0Y (c : CoS) (_p0 : Int) (_σ : Nat → Nat) : List Blk := [.cells [(.im (List.map eFr c.f) c.bf), (.int .i64 c.v), (.int .i64 c.e), (.int .i64 c.x0), (.int .i64 c.x1), (.int .i64 c.x2), (.im (List.map eI c.ret) c.bret)] false 57]
theorem qcore_0E (c : CoS) (p0 : Int) (σ : Nat → Nat) : qcore_0W.map (gm (qcore_0V c p0 σ)) = qcore_0X c p0 σ := by kernel_rfl
theorem qcore_0G (c : CoS) (p0 : Int) (σ : Nat → Nat) : qcore_0C.map (gB (qcore_0V c p0 σ)) = qcore_0Y c p0 σ := by kernel_rfl
set_option maxHeartbeats 10000000 in
theorem qcore_0_ok : ∀ (fu : Nat), ∀ (c : CoS) (p0 : Int) {r0 : AV} {z0 : St} {σ : Nat → Nat}, (∀ i j, σ i = σ j → i = j) → qcore_0 fu c p0 = some r0 → Sim (qcore_0V c p0 σ) (tmpl [1, 3] qcore_0W qcore_0C) z0 → J FF (fnOf FF 103) (cutK (fnOf FF 103) 0) (.code (.loop (cutB (fnOf FF 103) 0))) z0 r0 := by
  intro fu
  induction fu with
  | zero =>
    intro _ _ _ _ _ _ h _
    unfold qcore_0 at h
    cases h
  | succ fu ih =>
    intro c p0 r0 z0 σ hσ h S
    unfold qcore_0 at h
    exact J_enter (have H := Tok.start hσ S 1 6 2 0 ([.int .i64 p0, .int .i64 c.v, .int .i64 c.e, .int .i64 c.x0, .int .i64 c.x1, .int .i64 c.x2]) ([.im (List.map eFr c.f) c.bf, .im (List.map eI c.ret) c.bret]) [] (.c (OkF.im eFr_ok _ _) <| .c (OkF.im eI_ok _ _) <| .n) (.n) (qcore_0E c p0 _) (qcore_0G c p0 _); have H := H.t 8 [.int .i64 (List.length c.f : Int), .bool (decide (p0 < (List.length c.f : Int)))] |>.r [(.bin .lss (cT 0) (cT 6), (vt 7))] |>.c (p := (.len 0 (cF 0), (vt 6))) (fun _ _ _ => fLen (e := eFr) (l := c.f) (b := c.bf) (by kernel_rfl) (by kernel_rfl)); iteE h (fun h0 h => have H := H.m 7 true (decide_eq_true h0); reqE h (fun h1 h => bindE h (fun x2 h2 h => have H := H.t 20 [.int .i64 x2.op, .int .i64 x2.pc, .int .i64 x2.r0, .int .i64 x2.r1, .int .i64 x2.r2, .int .i64 x2.r3, .int .i64 x2.r4, .int .i64 x2.r5, .int .i64 x2.r6, .int .i64 x2.r7, .bool (nearF x2.r0), .bool (!(nearF x2.r0))] |>.f 3 [.im (List.map eI x2.s) x2.bs] (.c (OkF.im eI_ok _ _) <| .n) |>.r [(.un .not (cT 18), (vt 19))] |>.c (p := (.iaS 11 (cF 0) (cT 0), (.ip (vT 8 10 ++ [(vf 2)]) 0))) (fun _ _ _ => fIa (sz := 11) (e := eFr) (l := c.f) (b := c.bf) (k := .i64) (n := p0) (y := x2) eFr_ok (by kernel_rfl) (by kernel_rfl) h1 h2 (by kernel_rfl)) |>.s [(vt 10)] (vt 18) (nearF_ok x2.r0); iteE h (fun h3 h => have H := H.m 19 true h3; H.e [0] h) (fun h3 h => have H := H.t 22 [.bool (nearF x2.r1), .bool (!(nearF x2.r1))] |>.r [(.un .not (cT 20), (vt 21))] |>.m 19 false (bF h3) |>.s [(vt 11)] (vt 20) (nearF_ok x2.r1); iteE h (fun h4 h => have H := H.m 21 true h4; H.e [0] h) (fun h4 h => have H := H.t 24 [.bool (nearF x2.r2), .bool (!(nearF x2.r2))] |>.r [(.un .not (cT 22), (vt 23))] |>.m 21 false (bF h4) |>.s [(vt 12)] (vt 22) (nearF_ok x2.r2); iteE h (fun h5 h => have H := H.m 23 true h5; H.e [0] h) (fun h5 h => have H := H.t 26 [.bool (nearF x2.r3), .bool (!(nearF x2.r3))] |>.r [(.un .not (cT 24), (vt 25))] |>.m 23 false (bF h5) |>.s [(vt 13)] (vt 24) (nearF_ok x2.r3); iteE h (fun h6 h => have H := H.m 25 true h6; H.e [0] h) (fun h6 h => have H := H.t 28 [.bool (nearF x2.r4), .bool (!(nearF x2.r4))] |>.r [(.un .not (cT 26), (vt 27))] |>.m 25 false (bF h6) |>.s [(vt 14)] (vt 26) (nearF_ok x2.r4); iteE h (fun h7 h => have H := H.m 27 true h7; H.e [0] h) (fun h7 h => have H := H.t 30 [.bool (nearF x2.r5), .bool (!(nearF x2.r5))] |>.r [(.un .not (cT 28), (vt 29))] |>.m 27 false (bF h7) |>.s [(vt 15)] (vt 28) (nearF_ok x2.r5); iteE h (fun h8 h => have H := H.m 29 true h8; H.e [0] h) (fun h8 h => have H := H.t 32 [.bool (nearF x2.r6), .bool (!(nearF x2.r6))] |>.r [(.un .not (cT 30), (vt 31))] |>.m 29 false (bF h8) |>.s [(vt 16)] (vt 30) (nearF_ok x2.r6); iteE h (fun h9 h => have H := H.m 31 true h9; H.e [0] h) (fun h9 h => have H := H.t 34 [.bool (nearF x2.r7), .bool (!(nearF x2.r7))] |>.r [(.un .not (cT 32), (vt 33))] |>.m 31 false (bF h9) |>.s [(vt 17)] (vt 32) (nearF_ok x2.r7); iteE h (fun h10 h => have H := H.m 33 true h10; H.e [0] h) (fun h10 h => have H := H.t 35 [.int .i64 (w64 (p0 + 1))] |>.r [(.bin .add (cT 0) (cI 1), (vt 34))] |>.m 33 false (bF h10); H.k [0] [1, 3] [0] [(.ptr 0 0), (vt 34)] [.cells ([(vf 0)] ++ vT 1 5 ++ [(vf 1)]) false 57] 1 (qcore_0V c (w64 (p0 + 1)) _) (qcore_0E c (w64 (p0 + 1)) _) (qcore_0G c (w64 (p0 + 1)) _) (fun _ hi S => ih _ _ hi h S)))))))))))) (fun h0 h => have H := H.m 7 false (decide_eq_false h0); H.e [0] h))
def qcore (fu : Nat) (c : CoS) : Option AV :=
  if (!(nearF c.v)) = true then
    some (.bool false)
  else
    if (!(nearF c.x0)) = true then
      some (.bool false)
    else
      if (!(nearF c.x1)) = true then
        some (.bool false)
      else
        if (!(nearF c.x2)) = true then
          some (.bool false)
        else
          qcore_0 fu c 0
def qcoreW : List AV := [(.agg ([(vf 0)] ++ vT 0 5 ++ [(vf 1)]))]
def qcoreV (c : CoS) (σ : Nat → Nat) : Val := (valL ([.int .i64 c.v, .int .i64 c.e, .int .i64 c.x0, .int .i64 c.x1, .int .i64 c.x2]) ([.im (List.map eFr c.f) c.bf, .im (List.map eI c.ret) c.bret]) [] σ 0)
def qcoreX (c : CoS) (_σ : Nat → Nat) : List AV := [(.agg [(.im (List.map eFr c.f) c.bf), (.int .i64 c.v), (.int .i64 c.e), (.int .i64 c.x0), (.int .i64 c.x1), (.int .i64 c.x2), (.im (List.map eI c.ret) c.bret)])]
def qcoreY (_c : CoS) (_σ : Nat → Nat) : List Blk := []
theorem qcoreE (c : CoS) (σ : Nat → Nat) : qcoreW.map (gm (qcoreV c σ)) = qcoreX c σ := by kernel_rfl
theorem qcoreG (c : CoS) (σ : Nat → Nat) : ([] : List Blk).map (gB (qcoreV c σ)) = qcoreY c σ := by kernel_rfl
theorem qcore_ok {fu : Nat} (c : CoS) {r0 : AV} (h : qcore fu c = some r0) : Spec FF 103 [(.agg [(.im (List.map eFr c.f) c.bf), (.int .i64 c.v), (.int .i64 c.e), (.int .i64 c.x0), (.int .i64 c.x1), (.int .i64 c.x2), (.im (List.map eI c.ret) c.bret)])] r0 := by
  unfold qcore at h
  have hσ : ∀ i j : Nat, (fun i : Nat => i) i = (fun i : Nat => i) j → i = j := fun _ _ e => e
  exact spec_begin (ρ := qcoreV c (fun i => i)) (xs := qcoreW) (by kernel_rfl) rfl rfl (by kernel_rfl) (fun z0 S => have H := Tok.start hσ S 0 5 2 0 ([.int .i64 c.v, .int .i64 c.e, .int .i64 c.x0, .int .i64 c.x1, .int .i64 c.x2]) ([.im (List.map eFr c.f) c.bf, .im (List.map eI c.ret) c.bret]) [] (.c (OkF.im eFr_ok _ _) <| .c (OkF.im eI_ok _ _) <| .n) .n (qcoreE c _) (qcoreG c _); have H := H.t 7 [.bool (nearF c.v), .bool (!(nearF c.v))] |>.r [(.un .not (cT 5), (vt 6))] |>.s [(vt 0)] (vt 5) (nearF_ok c.v); iteE h (fun h0 h => have H := H.m 6 true h0; H.e [0] h) (fun h0 h => have H := H.t 9 [.bool (nearF c.x0), .bool (!(nearF c.x0))] |>.r [(.un .not (cT 7), (vt 8))] |>.m 6 false (bF h0) |>.s [(vt 2)] (vt 7) (nearF_ok c.x0); iteE h (fun h1 h => have H := H.m 8 true h1; H.e [0] h) (fun h1 h => have H := H.t 11 [.bool (nearF c.x1), .bool (!(nearF c.x1))] |>.r [(.un .not (cT 9), (vt 10))] |>.m 8 false (bF h1) |>.s [(vt 3)] (vt 9) (nearF_ok c.x1); iteE h (fun h2 h => have H := H.m 10 true h2; H.e [0] h) (fun h2 h => have H := H.t 13 [.bool (nearF c.x2), .bool (!(nearF c.x2))] |>.r [(.un .not (cT 11), (vt 12))] |>.m 10 false (bF h2) |>.s [(vt 4)] (vt 11) (nearF_ok c.x2); iteE h (fun h3 h => have H := H.m 12 true h3; H.e [0] h) (fun h3 h => have H := H.m 12 false (bF h3); H.k [0] [1, 3] [0] [(.ptr 0 0), (.int .i64 0)] [.cells ([(vf 0)] ++ vT 0 5 ++ [(vf 1)]) false 57] 1 (qcore_0V c 0 _) (qcore_0E c 0 _) (qcore_0G c 0 _) (fun _ hi S => qcore_0_ok _ _ _ hi h S))))))

mutual
def qsmall3_0 : Nat → SyS → Int → Option AV
  | 0, _, _ => none
  | fu + 1, s, p0 =>
    if p0 < (List.length s.c : Int) then
      if 0 ≤ p0 then Option.bind (s.c[Int.toNat p0]?) fun x2 =>
      if (List.length x2.f : Int) > 45 then
        some (.bool false)
      else
        if (List.length x2.ret : Int) > 210 then
          some (.bool false)
        else
          qsmall3_2 fu s p0 0 else none
    else
      some (.bool true)
def qsmall3_2 : Nat → SyS → Int → Int → Option AV
  | 0, _, _, _ => none
  | fu + 1, s, p0, p1_0 =>
    if 0 ≤ p0 then Option.bind (s.c[Int.toNat p0]?) fun x1 =>
    if p1_0 < (List.length x1.f : Int) then
      if 0 ≤ p1_0 then Option.bind (x1.f[Int.toNat p1_0]?) fun x4 =>
      if (List.length x4.s : Int) > 30 then
        some (.bool false)
      else
        qsmall3_2 fu s p0 (w64 (p1_0 + 1)) else none
    else
      qsmall3_0 fu s (w64 (p0 + 1)) else none
end
def qsmall3_0W : List AV := [(.ptr 0 0), (vt 0)]
def qsmall3_0C : List Blk := [.cells [(vf 0), (vf 1), (vt 1), (vf 2), (vf 3)] false 28]
def qsmall3_0V (s : SyS) (p0 : Int) (σ : Nat → Nat) : Val := (valL ([.int .i64 p0, .bool s.bad]) ([.im (List.map eI s.w) s.bw, .im (List.map eI s.g) s.bg, .im (List.map eCo s.c) s.bc, .im (List.map eEv s.l) s.bl]) [] σ 1)
def qsmall3_0X (_s : SyS) (p0 : Int) (σ : Nat → Nat) : List AV := [(.ptr (σ 0) 0), (.int .i64 p0)]
def qsmall3_0Y (s : SyS) (_p0 : Int) (_σ : Nat → Nat) : List Blk := [.cells [(.im (List.map eI s.w) s.bw), (.im (List.map eI s.g) s.bg), (.bool s.bad), (.im (List.map eCo s.c) s.bc), (.im (List.map eEv s.l) s.bl)] false 28]
theorem qsmall3_0E (s : SyS) (p0 : Int) (σ : Nat → Nat) : qsmall3_0W.map (gm (qsmall3_0V s p0 σ)) = qsmall3_0X s p0 σ := by kernel_rfl
theorem qsmall3_0G (s : SyS) (p0 : Int) (σ : Nat → Nat) : qsmall3_0C.map (gB (qsmall3_0V s p0 σ)) = qsmall3_0Y s p0 σ := by kernel_rfl
def qsmall3_2W : List AV := [(.ptr 0 0), (vt 0), (vt 1)]
def qsmall3_2C : List Blk := [.cells [(vf 0), (vf 1), (vt 2), (vf 2), (vf 3)] false 28]
def qsmall3_2V (s : SyS) (p0 : Int) (p1_0 : Int) (σ : Nat → Nat) : Val := (valL ([.int .i64 p0, .int .i64 p1_0, .bool s.bad]) ([.im (List.map eI s.w) s.bw, .im (List.map eI s.g) s.bg, .im (List.map eCo s.c) s.bc, .im (List.map eEv s.l) s.bl]) [] σ 1)
def qsmall3_2X (_s : SyS) (p0 : Int) (p1_0 : Int) (σ : Nat → Nat) : List AV := [(.ptr (σ 0) 0), (.int .i64 p0), (.int .i64 p1_0)]
def qsmall3_2Y (s : SyS) (_p0 : Int) (_p1_0 : Int) (_σ : Nat → Nat) : List Blk := [.cells [(.im (List.map eI s.w) s.bw), (.im (List.map eI s.g) s.bg), (.bool s.bad), (.im (List.map eCo s.c) s.bc), (.im (List.map eEv s.l) s.bl)] false 28]
theorem qsmall3_2E (s : SyS) (p0 : Int) (p1_0 : Int) (σ : Nat → Nat) : qsmall3_2W.map (gm (qsmall3_2V s p0 p1_0 σ)) = qsmall3_2X s p0 p1_0 σ := by kernel_rfl
theorem qsmall3_2G (s : SyS) (p0 : Int) (p1_0 : Int) (σ : Nat → Nat) : qsmall3_2C.map (gB (qsmall3_2V s p0 p1_0 σ)) = qsmall3_2Y s p0 p1_0 σ := by kernel_rfl
set_option maxHeartbeats 10000000 in
theorem qsmall3_all : ∀ (fu : Nat), (∀ (s : SyS) (p0 : Int) {r0 : AV} {z0 : St} {σ : Nat → Nat}, (∀ i j, σ i = σ j → i = j) → qsmall3_0 fu s p0 = some r0 → Sim (qsmall3_0V s p0 σ) (tmpl [2, 6] qsmall3_0W qsmall3_0C) z0 → J FF (fnOf FF 54) (cutK (fnOf FF 54) 0) (.code (.loop (cutB (fnOf FF 54) 0))) z0 r0) ∧ (∀ (s : SyS) (p0 : Int) (p1_0 : Int) {r0 : AV} {z0 : St} {σ : Nat → Nat}, (∀ i j, σ i = σ j → i = j) → qsmall3_2 fu s p0 p1_0 = some r0 → Sim (qsmall3_2V s p0 p1_0 σ) (tmpl [2, 6, 7] qsmall3_2W qsmall3_2C) z0 → J FF (fnOf FF 54) (cutK (fnOf FF 54) 2) (.code (.loop (cutB (fnOf FF 54) 2))) z0 r0) := by
  intro fu
  induction fu with
  | zero =>
    refine ⟨?_, ?_⟩
    · intro _ _ _ _ _ _ h _
      unfold qsmall3_0 at h
      cases h
    · intro _ _ _ _ _ _ _ h _
      unfold qsmall3_2 at h
      cases h
  | succ fu ih =>
    obtain ⟨ih0, ih1⟩ := ih
    refine ⟨?_, ?_⟩
    · intro s p0 r0 z0 σ hσ h S
      unfold qsmall3_0 at h
      exact J_enter (have H := Tok.start hσ S 1 2 4 0 ([.int .i64 p0, .bool s.bad]) ([.im (List.map eI s.w) s.bw, .im (List.map eI s.g) s.bg, .im (List.map eCo s.c) s.bc, .im (List.map eEv s.l) s.bl]) [] (.c (OkF.im eI_ok _ _) <| .c (OkF.im eI_ok _ _) <| .c (OkF.im eCo_ok _ _) <| .c (OkF.im eEv_ok _ _) <| .n) (.n) (qsmall3_0E s p0 _) (qsmall3_0G s p0 _); have H := H.t 4 [.int .i64 (List.length s.c : Int), .bool (decide (p0 < (List.length s.c : Int)))] |>.r [(.bin .lss (cT 0) (cT 2), (vt 3))] |>.c (p := (.len 0 (cF 2), (vt 2))) (fun _ _ _ => fLen (e := eCo) (l := s.c) (b := s.bc) (by kernel_rfl) (by kernel_rfl)); iteE h (fun h0 h => have H := H.m 3 true (decide_eq_true h0); reqE h (fun h1 h => bindE h (fun x2 h2 h => have H := H.t 11 [.int .i64 x2.v, .int .i64 x2.e, .int .i64 x2.x0, .int .i64 x2.x1, .int .i64 x2.x2, .int .i64 (List.length x2.f : Int), .bool (decide ((List.length x2.f : Int) > 45))] |>.f 6 [.im (List.map eFr x2.f) x2.bf, .im (List.map eI x2.ret) x2.bret] (.c (OkF.im eFr_ok _ _) <| .c (OkF.im eI_ok _ _) <| .n) |>.r [(.bin .gtr (cT 9) (cI 45), (vt 10))] |>.c (p := (.iaS 7 (cF 2) (cT 0), (.ip ([(vf 4)] ++ vT 4 5 ++ [(vf 5)]) 0))) (fun _ _ _ => fIa (sz := 7) (e := eCo) (l := s.c) (b := s.bc) (k := .i64) (n := p0) (y := x2) eCo_ok (by kernel_rfl) (by kernel_rfl) h1 h2 (by kernel_rfl)) |>.c (p := (.len 0 (cF 4), (vt 9))) (fun _ _ _ => fLen (e := eFr) (l := x2.f) (b := x2.bf) (by kernel_rfl) (by kernel_rfl)); iteE h (fun h3 h => have H := H.m 10 true (decide_eq_true h3); H.e [0, 2] h) (fun h3 h => have H := H.t 13 [.int .i64 (List.length x2.ret : Int), .bool (decide ((List.length x2.ret : Int) > 210))] |>.r [(.bin .gtr (cT 11) (cI 210), (vt 12))] |>.m 10 false (decide_eq_false h3) |>.c (p := (.len 0 (cF 5), (vt 11))) (fun _ _ _ => fLen (e := eI) (l := x2.ret) (b := x2.bret) (by kernel_rfl) (by kernel_rfl)); iteE h (fun h4 h => have H := H.m 12 true (decide_eq_true h4); H.e [0, 2] h) (fun h4 h => have H := H.m 12 false (decide_eq_false h4); H.k [0, 2] [2, 6, 7] [0] [(.ptr 0 0), (vt 0), (.int .i64 0)] [.cells [(vf 0), (vf 1), (vt 1), (vf 2), (vf 3)] false 28] 1 (qsmall3_2V s p0 0 _) (qsmall3_2E s p0 0 _) (qsmall3_2G s p0 0 _) (fun _ hi S => ih1 _ _ _ hi h S)))))) (fun h0 h => have H := H.m 3 false (decide_eq_false h0); H.e [0, 2] h))
    · intro s p0 p1_0 r0 z0 σ hσ h S
      unfold qsmall3_2 at h
      exact J_enter (have H := Tok.start hσ S 1 3 4 0 ([.int .i64 p0, .int .i64 p1_0, .bool s.bad]) ([.im (List.map eI s.w) s.bw, .im (List.map eI s.g) s.bg, .im (List.map eCo s.c) s.bc, .im (List.map eEv s.l) s.bl]) [] (.c (OkF.im eI_ok _ _) <| .c (OkF.im eI_ok _ _) <| .c (OkF.im eCo_ok _ _) <| .c (OkF.im eEv_ok _ _) <| .n) (.n) (qsmall3_2E s p0 p1_0 _) (qsmall3_2G s p0 p1_0 _); reqE h (fun h0 h => bindE h (fun x1 h1 h => have H := H.t 10 [.int .i64 x1.v, .int .i64 x1.e, .int .i64 x1.x0, .int .i64 x1.x1, .int .i64 x1.x2, .int .i64 (List.length x1.f : Int), .bool (decide (p1_0 < (List.length x1.f : Int)))] |>.f 6 [.im (List.map eFr x1.f) x1.bf, .im (List.map eI x1.ret) x1.bret] (.c (OkF.im eFr_ok _ _) <| .c (OkF.im eI_ok _ _) <| .n) |>.r [(.bin .lss (cT 1) (cT 8), (vt 9))] |>.c (p := (.iaS 7 (cF 2) (cT 0), (.ip ([(vf 4)] ++ vT 3 5 ++ [(vf 5)]) 0))) (fun _ _ _ => fIa (sz := 7) (e := eCo) (l := s.c) (b := s.bc) (k := .i64) (n := p0) (y := x1) eCo_ok (by kernel_rfl) (by kernel_rfl) h0 h1 (by kernel_rfl)) |>.c (p := (.len 0 (cF 4), (vt 8))) (fun _ _ _ => fLen (e := eFr) (l := x1.f) (b := x1.bf) (by kernel_rfl) (by kernel_rfl)); iteE h (fun h2 h => have H := H.m 9 true (decide_eq_true h2); reqE h (fun h3 h => bindE h (fun x4 h4 h => have H := H.t 22 [.int .i64 x4.op, .int .i64 x4.pc, .int .i64 x4.r0, .int .i64 x4.r1, .int .i64 x4.r2, .int .i64 x4.r3, .int .i64 x4.r4, .int .i64 x4.r5, .int .i64 x4.r6, .int .i64 x4.r7, .int .i64 (List.length x4.s : Int), .bool (decide ((List.length x4.s : Int) > 30))] |>.f 7 [.im (List.map eI x4.s) x4.bs] (.c (OkF.im eI_ok _ _) <| .n) |>.r [(.bin .gtr (cT 20) (cI 30), (vt 21))] |>.c (p := (.iaS 11 (cF 4) (cT 1), (.ip (vT 10 10 ++ [(vf 6)]) 0))) (fun _ _ _ => fIa (sz := 11) (e := eFr) (l := x1.f) (b := x1.bf) (k := .i64) (n := p1_0) (y := x4) eFr_ok (by kernel_rfl) (by kernel_rfl) h3 h4 (by kernel_rfl)) |>.c (p := (.len 0 (cF 6), (vt 20))) (fun _ _ _ => fLen (e := eI) (l := x4.s) (b := x4.bs) (by kernel_rfl) (by kernel_rfl)); iteE h (fun h5 h => have H := H.m 21 true (decide_eq_true h5); H.e [0, 2] h) (fun h5 h => have H := H.t 23 [.int .i64 (w64 (p1_0 + 1))] |>.r [(.bin .add (cT 1) (cI 1), (vt 22))] |>.m 21 false (decide_eq_false h5); H.k [0, 2] [2, 6, 7] [0] [(.ptr 0 0), (vt 0), (vt 22)] [.cells [(vf 0), (vf 1), (vt 2), (vf 2), (vf 3)] false 28] 1 (qsmall3_2V s p0 (w64 (p1_0 + 1)) _) (qsmall3_2E s p0 (w64 (p1_0 + 1)) _) (qsmall3_2G s p0 (w64 (p1_0 + 1)) _) (fun _ hi S => ih1 _ _ _ hi h S))))) (fun h2 h => have H := H.t 11 [.int .i64 (w64 (p0 + 1))] |>.r [(.bin .add (cT 0) (cI 1), (vt 10))] |>.m 9 false (decide_eq_false h2); H.k [0, 2] [2, 6] [0] [(.ptr 0 0), (vt 10)] [.cells [(vf 0), (vf 1), (vt 2), (vf 2), (vf 3)] false 28] 1 (qsmall3_0V s (w64 (p0 + 1)) _) (qsmall3_0E s (w64 (p0 + 1)) _) (qsmall3_0G s (w64 (p0 + 1)) _) (fun _ hi S => ih0 _ _ hi h S)))))
theorem qsmall3_0_ok : ∀ (fu : Nat), ∀ (s : SyS) (p0 : Int) {r0 : AV} {z0 : St} {σ : Nat → Nat}, (∀ i j, σ i = σ j → i = j) → qsmall3_0 fu s p0 = some r0 → Sim (qsmall3_0V s p0 σ) (tmpl [2, 6] qsmall3_0W qsmall3_0C) z0 → J FF (fnOf FF 54) (cutK (fnOf FF 54) 0) (.code (.loop (cutB (fnOf FF 54) 0))) z0 r0 := fun fu => (qsmall3_all fu).1
theorem qsmall3_2_ok : ∀ (fu : Nat), ∀ (s : SyS) (p0 : Int) (p1_0 : Int) {r0 : AV} {z0 : St} {σ : Nat → Nat}, (∀ i j, σ i = σ j → i = j) → qsmall3_2 fu s p0 p1_0 = some r0 → Sim (qsmall3_2V s p0 p1_0 σ) (tmpl [2, 6, 7] qsmall3_2W qsmall3_2C) z0 → J FF (fnOf FF 54) (cutK (fnOf FF 54) 2) (.code (.loop (cutB (fnOf FF 54) 2))) z0 r0 := fun fu => (qsmall3_all fu).2
def qsmall3 (fu : Nat) (s : SyS) : Option AV :=
  if (!(small2F s.w s.g)) = true then
    some (.bool false)
  else
    if (List.length s.c : Int) > 9 then
      some (.bool false)
    else
      if (List.length s.l : Int) > 200 then
        some (.bool false)
      else
        qsmall3_0 fu s 0
def qsmall3W : List AV := [(.agg [(vf 0), (vf 1), (vt 0), (vf 2), (vf 3)]), (.int .i64 60)]
def qsmall3V (s : SyS) (σ : Nat → Nat) : Val := (valL ([.bool s.bad]) ([.im (List.map eI s.w) s.bw, .im (List.map eI s.g) s.bg, .im (List.map eCo s.c) s.bc, .im (List.map eEv s.l) s.bl]) [] σ 0)
def qsmall3X (s : SyS) (_σ : Nat → Nat) : List AV := [(.agg [(.im (List.map eI s.w) s.bw), (.im (List.map eI s.g) s.bg), (.bool s.bad), (.im (List.map eCo s.c) s.bc), (.im (List.map eEv s.l) s.bl)]), (.int .i64 60)]
def qsmall3Y (_s : SyS) (_σ : Nat → Nat) : List Blk := []
theorem qsmall3E (s : SyS) (σ : Nat → Nat) : qsmall3W.map (gm (qsmall3V s σ)) = qsmall3X s σ := by kernel_rfl
theorem qsmall3G (s : SyS) (σ : Nat → Nat) : ([] : List Blk).map (gB (qsmall3V s σ)) = qsmall3Y s σ := by kernel_rfl
theorem qsmall3_ok {fu : Nat} (s : SyS) {r0 : AV} (h : qsmall3 fu s = some r0) : Spec FF 54 [(.agg [(.im (List.map eI s.w) s.bw), (.im (List.map eI s.g) s.bg), (.bool s.bad), (.im (List.map eCo s.c) s.bc), (.im (List.map eEv s.l) s.bl)]), (.int .i64 60)] r0 := by
  unfold qsmall3 at h
  have hσ : ∀ i j : Nat, (fun i : Nat => i) i = (fun i : Nat => i) j → i = j := fun _ _ e => e
  exact spec_begin (ρ := qsmall3V s (fun i => i)) (xs := qsmall3W) (by kernel_rfl) rfl rfl (by kernel_rfl) (fun z0 S => have H := Tok.start hσ S 0 1 4 0 ([.bool s.bad]) ([.im (List.map eI s.w) s.bw, .im (List.map eI s.g) s.bg, .im (List.map eCo s.c) s.bc, .im (List.map eEv s.l) s.bl]) [] (.c (OkF.im eI_ok _ _) <| .c (OkF.im eI_ok _ _) <| .c (OkF.im eCo_ok _ _) <| .c (OkF.im eEv_ok _ _) <| .n) .n (qsmall3E s _) (qsmall3G s _); have H := H.t 3 [.bool (small2F s.w s.g), .bool (!(small2F s.w s.g))] |>.r [(.un .not (cT 1), (vt 2))] |>.s [(.agg [(vf 0), (vf 1), (vt 0)]), (.int .i64 60)] (vt 1) (small2_ok s.w s.bw s.g s.bg s.bad); iteE h (fun h0 h => have H := H.m 2 true h0; H.e [0, 2] h) (fun h0 h => have H := H.t 5 [.int .i64 (List.length s.c : Int), .bool (decide ((List.length s.c : Int) > 9))] |>.r [(.bin .gtr (cT 3) (cI 9), (vt 4))] |>.m 2 false (bF h0) |>.c (p := (.len 0 (cF 2), (vt 3))) (fun _ _ _ => fLen (e := eCo) (l := s.c) (b := s.bc) (by kernel_rfl) (by kernel_rfl)); iteE h (fun h1 h => have H := H.m 4 true (decide_eq_true h1); H.e [0, 2] h) (fun h1 h => have H := H.t 7 [.int .i64 (List.length s.l : Int), .bool (decide ((List.length s.l : Int) > 200))] |>.r [(.bin .gtr (cT 5) (cI 200), (vt 6))] |>.m 4 false (decide_eq_false h1) |>.c (p := (.len 0 (cF 3), (vt 5))) (fun _ _ _ => fLen (e := eEv) (l := s.l) (b := s.bl) (by kernel_rfl) (by kernel_rfl)); iteE h (fun h2 h => have H := H.m 6 true (decide_eq_true h2); H.e [0, 2] h) (fun h2 h => have H := H.m 6 false (decide_eq_false h2); H.k [0, 2] [2, 6] [0] [(.ptr 0 0), (.int .i64 0)] [.cells [(vf 0), (vf 1), (vt 0), (vf 2), (vf 3)] false 28] 1 (qsmall3_0V s 0 _) (qsmall3_0E s 0 _) (qsmall3_0G s 0 _) (fun _ hi S => qsmall3_0_ok _ _ _ hi h S)))))

end Go.Proofs.Hz
