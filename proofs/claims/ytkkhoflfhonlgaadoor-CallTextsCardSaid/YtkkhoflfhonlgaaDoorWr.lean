/-
  Chapter 15: what is parsed is printed so; what is printed is parsed. (Plain laws.)
  Conditions: none.
-/
import Derived.Test.YtkkhoflfhonlgaaDoorWq
open Go Go.Proofs
namespace Go.Proofs.Hz
set_option maxRecDepth 20000
noncomputable def lnX : AC := .seq lnA (.block 1 (.seq ln3 (.seq lnM (.seq (.reg lnY) (.cond (.t 24) .ret .skip)))))
/-- The loop's block, ready for a round. -/
structure LOk (σ : Nat → Nat) (l : ALoop) : Prop where
  st : l.st = 0
  pend : l.pend = none
  ps : l.ps = [12]
  asg : l.asg = paG
  body : l.body = paH
  regs : ∀ j, j < 5 → l.r.get (j + 2) = some (.ptr (σ j) 0)
def Agree (σ σ' : Nat → Nat) : Prop := ∀ j, j < 7 → σ' j = σ j
def AgreeE (σ σ' : Nat → Nat) : Prop := σ' 0 = σ 0 ∧ σ' 1 = σ 1 ∧ σ' 2 = σ 2 ∧ σ' 3 = σ 6
theorem lt7 {j : Nat} (h : j < 7) : j = 0 ∨ j = 1 ∨ j = 2 ∨ j = 3 ∨ j = 4 ∨ j = 5 ∨ j = 6 := by omega
theorem LOk.agree {σ σ' : Nat → Nat} {l : ALoop} (L : LOk σ l) (h : Agree σ σ') : LOk σ' l := ⟨L.st, L.pend, L.ps, L.asg, L.body, fun j hj => by rw [h j (by omega)]; exact L.regs j hj⟩
theorem Agree.trans {a b c : Nat → Nat} (h1 : Agree a b) (h2 : Agree b c) : Agree a c := fun j hj => (h2 j hj).trans (h1 j hj)
theorem rg_of {z : St} {t : Nat} {v : AV} (h : z.r.get t = some v) : z.rg t = v := by unfold St.rg; rw [h]; rfl
theorem set_get {z : St} {d t : Nat} {v : AV} (h : t ≠ d) : (z.set (some d) v).r.get t = z.r.get t := by
  show (z.r.put d (some v)).get t = _
  rw [T.get_put, if_neg (Ne.symm h)]
theorem set_self {z : St} {d : Nat} {v : AV} : (z.set (some d) v).r.get d = some v := by
  show (z.r.put d (some v)).get d = _
  rw [T.get_put, if_pos rfl]
theorem yreg {z s3 : St} {id : Nat} {line : List UInt8} {b : Bool} (h0 : z.r.get 0 = some (.yld id)) (h3 : z.r.get 3 = some (.str line))
    (hR : Rnd FF id [.str line] ((z.set (some 21) (.yld id)).set (some 22) (.str line)) (.bool b) s3) : Ev FF (.reg lnY) z .nrm ((s3.set (some 23) (.bool b)).set (some 24) (.bool (!b))) := by
  have e22 : (AO.t 22).ev ((z.set (some 21) (.yld id)).set (some 22) (.str line)) = .str line := rg_of set_self
  have e21 : (AO.t 21).ev ((z.set (some 21) (.yld id)).set (some 22) (.str line)) = .yld id := rg_of (by rw [set_get (by decide)]; exact set_self)
  refine Ev.reg (EvR.op (v := .yld id) (s1 := z) (fun n => ?_) (EvR.op (v := .str line) (s1 := z.set (some 21) (.yld id)) (fun n => ?_) (EvR.round (v := .bool b) (id := id) (s1 := s3) e21 ?_ (EvR.op (v := .bool (!b)) (s1 := s3.set (some 23) (.bool b)) (fun n => ?_) (EvR.nil _)))))
  · show some (z.rg 0, z) = _
    rw [rg_of h0]
  · show some ((z.set (some 21) (.yld id)).rg 3, _) = _
    rw [rg_of (by rw [set_get (by decide)]; exact h3)]
  · rw [show [AO.t 22].map (AO.ev ((z.set (some 21) (.yld id)).set (some 22) (.str line))) = [.str line] from by rw [List.map_singleton, e22]]
    exact hR
  · show opA (s3.set (some 23) (.bool b)) (.un .not (.t 23)) = _
    have e23 : (AO.t 23).ev (s3.set (some 23) (.bool b)) = .bool b := rg_of set_self
    simp only [opA, e23]
    rfl
theorem back_regs {z s3 : St} {x y v w : AV} {t : Nat} (h1 : t ≠ 21) (h2 : t ≠ 22) (h3 : t ≠ 23) (h4 : t ≠ 24) (hr : s3.r = ((z.set (some 21) x).set (some 22) y).r) : ((s3.set (some 23) v).set (some 24) w).r.get t = z.r.get t := by
  rw [set_get h4, set_get h3, hr, set_get h2, set_get h1]
theorem w64_len {a n : Nat} (h : a + n ≤ 1000000) : w64 ((a : Int) + (n : Int)) = ((a + n : Nat) : Int) := by
  unfold w64 IntKind.wrap
  simp [IntKind.signed, IntKind.bits]
  omega
theorem w64_idx {i : Int} {n : Nat} (h0 : 0 ≤ i) (h : i < n) (hn : n ≤ 1000000) : w64 (i + 1) = i + 1 := by
  unfold w64 IntKind.wrap
  simp [IntKind.signed, IntKind.bits]
  omega
theorem Sim.hp' {ρ : Val} {s c : St} (S : Sim ρ s c) (id : Nat) (l : ALoop) {i : Nat} (hi : ρ.σ id = i) : Sim ρ { s with h := s.h.put id (some (.loop l)) } (c.hp i (.loop l)) := by
  subst hi
  exact S.put' id (.loop l)
theorem loop_back {l : ALoop} (h1 : l.st = 0) (h2 : l.pend = none) : ({ ({ l with st := 1 } : ALoop) with st := 0, pend := none } : ALoop) = l := by
  cases l; simp only at h1 h2; subst h1; subst h2; rfl

theorem lnGood0 (out : List Cl) (a : Nat) (rest line : List UInt8) {z : St} {σ : Nat → Nat} (l : ALoop) (hσ : ∀ i j, σ i = σ j → i = j) (L : LOk σ l) (S : Sim (VL0 out a rest line σ) (tmpl [0, 1, 3] [.yld 6, .ptr 5 0, vt 2] (bk0 l)) z) (hl : line.length ≤ 1000000) (h0 : lineOk line = true) (hw : a + line.length ≤ 1000000) :
    ∃ z' σ', Ev FF (.reg lnY) z .nrm z' ∧ z'.r.get 24 = some (.bool false) ∧ Agree σ σ' ∧ Sim (V1 [lineC line] (a + line.length) rest σ') (tmpl [0, 1] w01 (bk1 l)) z' := by
  have h0r : z.r.get 0 = some (.yld (σ 6)) := S.regs 0 (.yld 6) (by kernel_rfl)
  have h1r : z.r.get 1 = some (.ptr (σ 5) 0) := S.regs 1 (.ptr 5 0) (by kernel_rfl)
  have h3r : z.r.get 3 = some (.str line) := S.regs 3 (vt 2) (by kernel_rfl)
  have hL : z.h.get (σ 6) = some (.loop l) := S.heap.get 6 (.loop l) (by kernel_rfl)
  have SA : Sim (VL0 out a rest line σ) (tmpl [2, 3, 4, 5, 6, 12] (wP ++ [vt 2]) (bk0 l)) { r := putAll l.r l.ps [.str line], h := z.h, nx := z.nx } := by
    refine S.regs' (fun t u hu => ?_) rfl rfl rfl rfl
    have hm := ofL_get (show (ofL ([2, 3, 4, 5, 6, 12].zip (wP ++ [vt 2]))).get t = some u from hu)
    rw [L.ps]
    show (l.r.put 12 (some (.str line))).get t = _
    rw [T.get_put]
    simp only [wP, List.zip, List.zipWith, List.cons_append, List.nil_append, List.mem_cons, Prod.mk.injEq, List.not_mem_nil, or_false] at hm
    rcases hm with ⟨rfl, rfl⟩ | ⟨rfl, rfl⟩ | ⟨rfl, rfl⟩ | ⟨rfl, rfl⟩ | ⟨rfl, rfl⟩ | ⟨rfl, rfl⟩
    · exact L.regs 0 (by decide)
    · exact L.regs 1 (by decide)
    · exact L.regs 2 (by decide)
    · exact L.regs 3 (by decide)
    · exact L.regs 4 (by decide)
    · rfl
  obtain ⟨zB, eB, SB⟩ := paG0_ok out a rest line l hσ SA
  have hB : zB.h.get (σ 6) = some (.loop l) := SB.heap.get 6 (.loop l) (by kernel_rfl)
  have SC := SB.hp' 6 { l with st := 1 } (i := σ 6) (by kernel_rfl)
  rw [show ({ tmpl [2, 3, 4, 5, 6, 7] (wP ++ [vt 2]) (bk0 l) with h := (tmpl [2, 3, 4, 5, 6, 7] (wP ++ [vt 2]) (bk0 l)).h.put 6 (some (.loop { l with st := 1 })) } : St) = tmpl [2, 3, 4, 5, 6, 7] (wP ++ [vt 2]) (bk0 { l with st := 1 }) by kernel_rfl] at SC
  obtain ⟨zC, eC, SD⟩ := paGood0 out a rest line { l with st := 1 } SB.heap.inj SC hl h0 (w64_len hw)
  have hD : zC.h.get (σ 6) = some (.loop { l with st := 1 }) := SD.heap.get 6 (.loop { l with st := 1 }) (by kernel_rfl)
  have hR := Rnd.mk (F := FF) (id := σ 6) (args := [.str line]) (s := (z.set (some 21) (.yld (σ 6))).set (some 22) (.str line)) (l := l) (s1 := zB) (s2 := zC) (l1 := l) (l2 := { l with st := 1 }) (e := .nrm) hL (by rw [L.ps]; rfl) (by rw [L.asg]; exact eB) hB L.st ((congrArg (fun b => Ev FF b (zB.hp (σ 6) (.loop { l with st := 1 })) .nrm zC) L.body).mpr eC) hD
  have hy := yreg h0r h3r hR
  refine ⟨_, sig (sig σ [0, 1, 2, 3, 4, 5, 6] 7) [0, 1, 2, 3, 4, 5, 6, 9] 10, hy, set_self, ?_, ?_⟩
  · intro j hj
    rcases lt7 hj with rfl | rfl | rfl | rfl | rfl | rfl | rfl <;> rfl
  · have SE := SD.hp' 6 l (i := σ 6) (by kernel_rfl)
    rw [show ({ tmpl [] [] (bk1 { l with st := 1 }) with h := (tmpl [] [] (bk1 { l with st := 1 })).h.put 6 (some (.loop l)) } : St) = tmpl [] [] (bk1 l) by kernel_rfl] at SE
    refine SE.regs' (fun t u hu => ?_) rfl ?_ rfl rfl
    · have hm := ofL_get (show (ofL ([0, 1].zip w01)).get t = some u from hu)
      simp only [w01, List.zip, List.zipWith, List.mem_cons, Prod.mk.injEq, List.not_mem_nil, or_false] at hm
      rcases hm with ⟨rfl, rfl⟩ | ⟨rfl, rfl⟩
      · exact (back_regs (z := z) (x := .yld (σ 6)) (y := .str line) (by decide) (by decide) (by decide) (by decide) rfl).trans (h0r.trans (by kernel_rfl))
      · exact (back_regs (z := z) (x := .yld (σ 6)) (y := .str line) (by decide) (by decide) (by decide) (by decide) rfl).trans (h1r.trans (by kernel_rfl))
    · show zC.h.put (σ 6) (some (.loop ({ ({ l with st := 1 } : ALoop) with st := 0, pend := none } : ALoop))) = zC.h.put (σ 6) (some (.loop l))
      rw [loop_back L.st L.pend]
theorem lnBad0 (out : List Cl) (a : Nat) (rest line : List UInt8) {z : St} {σ : Nat → Nat} (l : ALoop) (hσ : ∀ i j, σ i = σ j → i = j) (L : LOk σ l) (S : Sim (VL0 out a rest line σ) (tmpl [0, 1, 3] [.yld 6, .ptr 5 0, vt 2] (bk0 l)) z) (hl : line.length ≤ 1000000) (h0 : ¬ lineOk line = true) :
    ∃ z' σ', Ev FF (.reg lnY) z .nrm z' ∧ z'.r.get 24 = some (.bool true) ∧ AgreeE σ σ' ∧ Sim (VE4 a σ') (tmpl [] [] (bkE4 { l with st := 2, pend := some .ret })) z' := by
  have h0r : z.r.get 0 = some (.yld (σ 6)) := S.regs 0 (.yld 6) (by kernel_rfl)
  have h1r : z.r.get 1 = some (.ptr (σ 5) 0) := S.regs 1 (.ptr 5 0) (by kernel_rfl)
  have h3r : z.r.get 3 = some (.str line) := S.regs 3 (vt 2) (by kernel_rfl)
  have hL : z.h.get (σ 6) = some (.loop l) := S.heap.get 6 (.loop l) (by kernel_rfl)
  have SA : Sim (VL0 out a rest line σ) (tmpl [2, 3, 4, 5, 6, 12] (wP ++ [vt 2]) (bk0 l)) { r := putAll l.r l.ps [.str line], h := z.h, nx := z.nx } := by
    refine S.regs' (fun t u hu => ?_) rfl rfl rfl rfl
    have hm := ofL_get (show (ofL ([2, 3, 4, 5, 6, 12].zip (wP ++ [vt 2]))).get t = some u from hu)
    rw [L.ps]
    show (l.r.put 12 (some (.str line))).get t = _
    rw [T.get_put]
    simp only [wP, List.zip, List.zipWith, List.cons_append, List.nil_append, List.mem_cons, Prod.mk.injEq, List.not_mem_nil, or_false] at hm
    rcases hm with ⟨rfl, rfl⟩ | ⟨rfl, rfl⟩ | ⟨rfl, rfl⟩ | ⟨rfl, rfl⟩ | ⟨rfl, rfl⟩ | ⟨rfl, rfl⟩
    · exact L.regs 0 (by decide)
    · exact L.regs 1 (by decide)
    · exact L.regs 2 (by decide)
    · exact L.regs 3 (by decide)
    · exact L.regs 4 (by decide)
    · rfl
  obtain ⟨zB, eB, SB⟩ := paG0_ok out a rest line l hσ SA
  have hB : zB.h.get (σ 6) = some (.loop l) := SB.heap.get 6 (.loop l) (by kernel_rfl)
  have SC := SB.hp' 6 { l with st := 1 } (i := σ 6) (by kernel_rfl)
  rw [show ({ tmpl [2, 3, 4, 5, 6, 7] (wP ++ [vt 2]) (bk0 l) with h := (tmpl [2, 3, 4, 5, 6, 7] (wP ++ [vt 2]) (bk0 l)).h.put 6 (some (.loop { l with st := 1 })) } : St) = tmpl [2, 3, 4, 5, 6, 7] (wP ++ [vt 2]) (bk0 { l with st := 1 }) by kernel_rfl] at SC
  obtain ⟨zC, eC, SD⟩ := paBad0 out a rest line { l with st := 1 } SB.heap.inj SC hl h0
  have hD : zC.h.get (σ 6) = some (.loop { l with st := 1 }) := SD.heap.get 3 (.loop { l with st := 1 }) (by kernel_rfl)
  have hR := Rnd.mk (F := FF) (id := σ 6) (args := [.str line]) (s := (z.set (some 21) (.yld (σ 6))).set (some 22) (.str line)) (l := l) (s1 := zB) (s2 := zC) (l1 := l) (l2 := { l with st := 1 }) (e := .ret) hL (by rw [L.ps]; rfl) (by rw [L.asg]; exact eB) hB L.st ((congrArg (fun b => Ev FF b (zB.hp (σ 6) (.loop { l with st := 1 })) .ret zC) L.body).mpr eC) hD
  have hy := yreg h0r h3r hR
  refine ⟨_, sig (sig σ [0, 1, 2, 3, 4, 5, 6] 7) [0, 1, 2, 6] 12, hy, set_self, ?_, ?_⟩
  · exact ⟨rfl, rfl, rfl, rfl⟩
  · have SE := SD.hp' 3 { l with st := 2, pend := some .ret } (i := σ 6) (by kernel_rfl)
    rw [show ({ tmpl [] [] (bkE4 { l with st := 1 }) with h := (tmpl [] [] (bkE4 { l with st := 1 })).h.put 3 (some (.loop { l with st := 2, pend := some .ret })) } : St) = tmpl [] [] (bkE4 { l with st := 2, pend := some .ret }) by kernel_rfl] at SE
    refine SE.regs' (fun t u hu => ?_) rfl rfl rfl rfl
    rw [show (tmpl [] [] (bkE4 { l with st := 2, pend := some .ret })).r.get t = none from T.get_nil _] at hu
    cases hu

theorem lnLine0 (out : List Cl) (a : Nat) (rest : List UInt8) {z : St} {σ : Nat → Nat} (l : ALoop) (hσ : ∀ i j, σ i = σ j → i = j) (S : Sim (V0 out a rest σ) (tmpl [0, 1] w01 (bk0 l)) z) (hne : rest ≠ []) (hr : rest.length ≤ 1000000) :
    ∃ z1 σ1, Ev FF (.seq lnA (.seq ln3 lnM)) z .nrm z1 ∧ Agree σ σ1 ∧ Sim (VL0 out a (cutLine rest).2 (cutLine rest).1 σ1) (tmpl [0, 1, 3] [.yld 6, .ptr 5 0, vt 2] (bk0 l)) z1 := by
  have h0 : (List.length rest : Int) > 0 := by
    have := List.length_pos_iff.2 hne
    omega
  by_cases h1 : Lib.indexByte rest 10 ≥ 0
  · have hlt : Lib.indexByte rest 10 < rest.length := by
      rcases idx_le rest with h | h
      · exact h
      · exact absurd h hne
    have hw := w64_idx h1 hlt hr
    obtain ⟨z1, e1, S1⟩ := lnHit0 out a rest l hσ S h0 h1 (by rw [hw]; omega)
    rw [hw, (cutLine_hit h1).1, (cutLine_hit h1).2] at S1
    exact ⟨z1, _, e1, fun j hj => by rcases lt7 hj with rfl | rfl | rfl | rfl | rfl | rfl | rfl <;> rfl, S1⟩
  · obtain ⟨z1, e1, S1⟩ := lnMiss0 out a rest l hσ S h0 h1
    rw [cutLine_miss h1]
    exact ⟨z1, _, e1, fun j hj => by rcases lt7 hj with rfl | rfl | rfl | rfl | rfl | rfl | rfl <;> rfl, S1⟩
theorem lnStep0 (out : List Cl) (a : Nat) (rest : List UInt8) {z : St} {σ : Nat → Nat} (l : ALoop) (hσ : ∀ i j, σ i = σ j → i = j) (L : LOk σ l) (S : Sim (V0 out a rest σ) (tmpl [0, 1] w01 (bk0 l)) z) (hne : rest ≠ []) (hr : a + rest.length ≤ 1000000) :
    (lineOk (cutLine rest).1 = true → ∃ z2 σ2, Ev FF lnX z .nrm z2 ∧ Agree σ σ2 ∧ Sim (V1 [lineC (cutLine rest).1] (a + (cutLine rest).1.length) (cutLine rest).2 σ2) (tmpl [0, 1] w01 (bk1 l)) z2) ∧
    (¬ lineOk (cutLine rest).1 = true → ∃ z2 σ2, Ev FF lnX z .ret z2 ∧ AgreeE σ σ2 ∧ Sim (VE4 a σ2) (tmpl [] [] (bkE4 { l with st := 2, pend := some .ret })) z2) := by
  obtain ⟨z1, σ1, e1, g1, S1⟩ := lnLine0 out a rest l hσ S hne (by omega)
  obtain ⟨z0, eA, e3⟩ := e1.seqI
  have hlen := cutLine_len rest
  refine ⟨fun h => ?_, fun h => ?_⟩
  · obtain ⟨z2, σ2, e2, h24, g2, S2⟩ := lnGood0 out a _ _ l S1.heap.inj (L.agree g1) S1 (by omega) h (by omega)
    refine ⟨z2, σ2, ?_, g1.trans g2, S2⟩
    exact eA.seq (Ev.block (id := 1) (e3.assoc (e2.seq (Ev.cond (x := .t 24) (t := false) (rg_of h24) (Ev.skip _)))))
  · obtain ⟨z2, σ2, e2, h24, g2, S2⟩ := lnBad0 out a _ _ l S1.heap.inj (L.agree g1) S1 (by omega) h
    refine ⟨z2, σ2, ?_, ⟨g2.1.trans (g1 0 (by decide)), g2.2.1.trans (g1 1 (by decide)), g2.2.2.1.trans (g1 2 (by decide)), g2.2.2.2.trans (g1 6 (by decide))⟩, S2⟩
    exact eA.seq (Ev.block (id := 1) (e3.assoc (e2.seq (Ev.cond (x := .t 24) (t := true) (rg_of h24) (Ev.ret _)))))

theorem lnGood1 (out : List Cl) (a : Nat) (rest line : List UInt8) {z : St} {σ : Nat → Nat} (l : ALoop) (hσ : ∀ i j, σ i = σ j → i = j) (L : LOk σ l) (S : Sim (VL1 out a rest line σ) (tmpl [0, 1, 3] [.yld 6, .ptr 5 0, vt 2] (bk1 l)) z) (hl : line.length ≤ 1000000) (ho : out.length ≤ 1000000) (h0 : lineOk line = true) (hw : a + line.length ≤ 1000000) :
    ∃ z' σ', Ev FF (.reg lnY) z .nrm z' ∧ z'.r.get 24 = some (.bool false) ∧ Agree σ σ' ∧ Sim (V1 (out ++ [lineC line]) (a + line.length) rest σ') (tmpl [0, 1] w01 (bk1 l)) z' := by
  have h0r : z.r.get 0 = some (.yld (σ 6)) := S.regs 0 (.yld 6) (by kernel_rfl)
  have h1r : z.r.get 1 = some (.ptr (σ 5) 0) := S.regs 1 (.ptr 5 0) (by kernel_rfl)
  have h3r : z.r.get 3 = some (.str line) := S.regs 3 (vt 2) (by kernel_rfl)
  have hL : z.h.get (σ 6) = some (.loop l) := S.heap.get 6 (.loop l) (by kernel_rfl)
  have SA : Sim (VL1 out a rest line σ) (tmpl [2, 3, 4, 5, 6, 12] (wP ++ [vt 2]) (bk1 l)) { r := putAll l.r l.ps [.str line], h := z.h, nx := z.nx } := by
    refine S.regs' (fun t u hu => ?_) rfl rfl rfl rfl
    have hm := ofL_get (show (ofL ([2, 3, 4, 5, 6, 12].zip (wP ++ [vt 2]))).get t = some u from hu)
    rw [L.ps]
    show (l.r.put 12 (some (.str line))).get t = _
    rw [T.get_put]
    simp only [wP, List.zip, List.zipWith, List.cons_append, List.nil_append, List.mem_cons, Prod.mk.injEq, List.not_mem_nil, or_false] at hm
    rcases hm with ⟨rfl, rfl⟩ | ⟨rfl, rfl⟩ | ⟨rfl, rfl⟩ | ⟨rfl, rfl⟩ | ⟨rfl, rfl⟩ | ⟨rfl, rfl⟩
    · exact L.regs 0 (by decide)
    · exact L.regs 1 (by decide)
    · exact L.regs 2 (by decide)
    · exact L.regs 3 (by decide)
    · exact L.regs 4 (by decide)
    · rfl
  obtain ⟨zB, eB, SB⟩ := paG1_ok out a rest line l hσ SA
  have hB : zB.h.get (σ 6) = some (.loop l) := SB.heap.get 6 (.loop l) (by kernel_rfl)
  have SC := SB.hp' 6 { l with st := 1 } (i := σ 6) (by kernel_rfl)
  rw [show ({ tmpl [2, 3, 4, 5, 6, 7] (wP ++ [vt 2]) (bk1 l) with h := (tmpl [2, 3, 4, 5, 6, 7] (wP ++ [vt 2]) (bk1 l)).h.put 6 (some (.loop { l with st := 1 })) } : St) = tmpl [2, 3, 4, 5, 6, 7] (wP ++ [vt 2]) (bk1 { l with st := 1 }) by kernel_rfl] at SC
  obtain ⟨zC, eC, SD⟩ := paGood1 out a rest line { l with st := 1 } SB.heap.inj SC hl ho h0 (w64_len hw)
  have hD : zC.h.get (σ 6) = some (.loop { l with st := 1 }) := SD.heap.get 6 (.loop { l with st := 1 }) (by kernel_rfl)
  have hR := Rnd.mk (F := FF) (id := σ 6) (args := [.str line]) (s := (z.set (some 21) (.yld (σ 6))).set (some 22) (.str line)) (l := l) (s1 := zB) (s2 := zC) (l1 := l) (l2 := { l with st := 1 }) (e := .nrm) hL (by rw [L.ps]; rfl) (by rw [L.asg]; exact eB) hB L.st ((congrArg (fun b => Ev FF b (zB.hp (σ 6) (.loop { l with st := 1 })) .nrm zC) L.body).mpr eC) hD
  have hy := yreg h0r h3r hR
  refine ⟨_, sig (sig σ [0, 1, 2, 3, 4, 5, 6, 7] 8) [0, 1, 2, 3, 4, 5, 6, 10] 11, hy, set_self, ?_, ?_⟩
  · intro j hj
    rcases lt7 hj with rfl | rfl | rfl | rfl | rfl | rfl | rfl <;> rfl
  · have SE := SD.hp' 6 l (i := σ 6) (by kernel_rfl)
    rw [show ({ tmpl [] [] (bk1 { l with st := 1 }) with h := (tmpl [] [] (bk1 { l with st := 1 })).h.put 6 (some (.loop l)) } : St) = tmpl [] [] (bk1 l) by kernel_rfl] at SE
    refine SE.regs' (fun t u hu => ?_) rfl ?_ rfl rfl
    · have hm := ofL_get (show (ofL ([0, 1].zip w01)).get t = some u from hu)
      simp only [w01, List.zip, List.zipWith, List.mem_cons, Prod.mk.injEq, List.not_mem_nil, or_false] at hm
      rcases hm with ⟨rfl, rfl⟩ | ⟨rfl, rfl⟩
      · exact (back_regs (z := z) (x := .yld (σ 6)) (y := .str line) (by decide) (by decide) (by decide) (by decide) rfl).trans (h0r.trans (by kernel_rfl))
      · exact (back_regs (z := z) (x := .yld (σ 6)) (y := .str line) (by decide) (by decide) (by decide) (by decide) rfl).trans (h1r.trans (by kernel_rfl))
    · show zC.h.put (σ 6) (some (.loop ({ ({ l with st := 1 } : ALoop) with st := 0, pend := none } : ALoop))) = zC.h.put (σ 6) (some (.loop l))
      rw [loop_back L.st L.pend]
theorem lnBad1 (out : List Cl) (a : Nat) (rest line : List UInt8) {z : St} {σ : Nat → Nat} (l : ALoop) (hσ : ∀ i j, σ i = σ j → i = j) (L : LOk σ l) (S : Sim (VL1 out a rest line σ) (tmpl [0, 1, 3] [.yld 6, .ptr 5 0, vt 2] (bk1 l)) z) (hl : line.length ≤ 1000000) (h0 : ¬ lineOk line = true) :
    ∃ z' σ', Ev FF (.reg lnY) z .nrm z' ∧ z'.r.get 24 = some (.bool true) ∧ AgreeE σ σ' ∧ Sim (VE4 a σ') (tmpl [] [] (bkE4 { l with st := 2, pend := some .ret })) z' := by
  have h0r : z.r.get 0 = some (.yld (σ 6)) := S.regs 0 (.yld 6) (by kernel_rfl)
  have h1r : z.r.get 1 = some (.ptr (σ 5) 0) := S.regs 1 (.ptr 5 0) (by kernel_rfl)
  have h3r : z.r.get 3 = some (.str line) := S.regs 3 (vt 2) (by kernel_rfl)
  have hL : z.h.get (σ 6) = some (.loop l) := S.heap.get 6 (.loop l) (by kernel_rfl)
  have SA : Sim (VL1 out a rest line σ) (tmpl [2, 3, 4, 5, 6, 12] (wP ++ [vt 2]) (bk1 l)) { r := putAll l.r l.ps [.str line], h := z.h, nx := z.nx } := by
    refine S.regs' (fun t u hu => ?_) rfl rfl rfl rfl
    have hm := ofL_get (show (ofL ([2, 3, 4, 5, 6, 12].zip (wP ++ [vt 2]))).get t = some u from hu)
    rw [L.ps]
    show (l.r.put 12 (some (.str line))).get t = _
    rw [T.get_put]
    simp only [wP, List.zip, List.zipWith, List.cons_append, List.nil_append, List.mem_cons, Prod.mk.injEq, List.not_mem_nil, or_false] at hm
    rcases hm with ⟨rfl, rfl⟩ | ⟨rfl, rfl⟩ | ⟨rfl, rfl⟩ | ⟨rfl, rfl⟩ | ⟨rfl, rfl⟩ | ⟨rfl, rfl⟩
    · exact L.regs 0 (by decide)
    · exact L.regs 1 (by decide)
    · exact L.regs 2 (by decide)
    · exact L.regs 3 (by decide)
    · exact L.regs 4 (by decide)
    · rfl
  obtain ⟨zB, eB, SB⟩ := paG1_ok out a rest line l hσ SA
  have hB : zB.h.get (σ 6) = some (.loop l) := SB.heap.get 6 (.loop l) (by kernel_rfl)
  have SC := SB.hp' 6 { l with st := 1 } (i := σ 6) (by kernel_rfl)
  rw [show ({ tmpl [2, 3, 4, 5, 6, 7] (wP ++ [vt 2]) (bk1 l) with h := (tmpl [2, 3, 4, 5, 6, 7] (wP ++ [vt 2]) (bk1 l)).h.put 6 (some (.loop { l with st := 1 })) } : St) = tmpl [2, 3, 4, 5, 6, 7] (wP ++ [vt 2]) (bk1 { l with st := 1 }) by kernel_rfl] at SC
  obtain ⟨zC, eC, SD⟩ := paBad1 out a rest line { l with st := 1 } SB.heap.inj SC hl h0
  have hD : zC.h.get (σ 6) = some (.loop { l with st := 1 }) := SD.heap.get 3 (.loop { l with st := 1 }) (by kernel_rfl)
  have hR := Rnd.mk (F := FF) (id := σ 6) (args := [.str line]) (s := (z.set (some 21) (.yld (σ 6))).set (some 22) (.str line)) (l := l) (s1 := zB) (s2 := zC) (l1 := l) (l2 := { l with st := 1 }) (e := .ret) hL (by rw [L.ps]; rfl) (by rw [L.asg]; exact eB) hB L.st ((congrArg (fun b => Ev FF b (zB.hp (σ 6) (.loop { l with st := 1 })) .ret zC) L.body).mpr eC) hD
  have hy := yreg h0r h3r hR
  refine ⟨_, sig (sig σ [0, 1, 2, 3, 4, 5, 6, 7] 8) [0, 1, 2, 6] 13, hy, set_self, ?_, ?_⟩
  · exact ⟨rfl, rfl, rfl, rfl⟩
  · have SE := SD.hp' 3 { l with st := 2, pend := some .ret } (i := σ 6) (by kernel_rfl)
    rw [show ({ tmpl [] [] (bkE4 { l with st := 1 }) with h := (tmpl [] [] (bkE4 { l with st := 1 })).h.put 3 (some (.loop { l with st := 2, pend := some .ret })) } : St) = tmpl [] [] (bkE4 { l with st := 2, pend := some .ret }) by kernel_rfl] at SE
    refine SE.regs' (fun t u hu => ?_) rfl rfl rfl rfl
    rw [show (tmpl [] [] (bkE4 { l with st := 2, pend := some .ret })).r.get t = none from T.get_nil _] at hu
    cases hu

theorem lnLine1 (out : List Cl) (a : Nat) (rest : List UInt8) {z : St} {σ : Nat → Nat} (l : ALoop) (hσ : ∀ i j, σ i = σ j → i = j) (S : Sim (V1 out a rest σ) (tmpl [0, 1] w01 (bk1 l)) z) (hne : rest ≠ []) (hr : rest.length ≤ 1000000) :
    ∃ z1 σ1, Ev FF (.seq lnA (.seq ln3 lnM)) z .nrm z1 ∧ Agree σ σ1 ∧ Sim (VL1 out a (cutLine rest).2 (cutLine rest).1 σ1) (tmpl [0, 1, 3] [.yld 6, .ptr 5 0, vt 2] (bk1 l)) z1 := by
  have h0 : (List.length rest : Int) > 0 := by
    have := List.length_pos_iff.2 hne
    omega
  by_cases h1 : Lib.indexByte rest 10 ≥ 0
  · have hlt : Lib.indexByte rest 10 < rest.length := by
      rcases idx_le rest with h | h
      · exact h
      · exact absurd h hne
    have hw := w64_idx h1 hlt hr
    obtain ⟨z1, e1, S1⟩ := lnHit1 out a rest l hσ S h0 h1 (by rw [hw]; omega)
    rw [hw, (cutLine_hit h1).1, (cutLine_hit h1).2] at S1
    exact ⟨z1, _, e1, fun j hj => by rcases lt7 hj with rfl | rfl | rfl | rfl | rfl | rfl | rfl <;> rfl, S1⟩
  · obtain ⟨z1, e1, S1⟩ := lnMiss1 out a rest l hσ S h0 h1
    rw [cutLine_miss h1]
    exact ⟨z1, _, e1, fun j hj => by rcases lt7 hj with rfl | rfl | rfl | rfl | rfl | rfl | rfl <;> rfl, S1⟩
theorem lnStep1 (out : List Cl) (a : Nat) (rest : List UInt8) {z : St} {σ : Nat → Nat} (l : ALoop) (hσ : ∀ i j, σ i = σ j → i = j) (L : LOk σ l) (S : Sim (V1 out a rest σ) (tmpl [0, 1] w01 (bk1 l)) z) (hne : rest ≠ []) (hr : a + rest.length ≤ 1000000) (ho : out.length ≤ 1000000) :
    (lineOk (cutLine rest).1 = true → ∃ z2 σ2, Ev FF lnX z .nrm z2 ∧ Agree σ σ2 ∧ Sim (V1 (out ++ [lineC (cutLine rest).1]) (a + (cutLine rest).1.length) (cutLine rest).2 σ2) (tmpl [0, 1] w01 (bk1 l)) z2) ∧
    (¬ lineOk (cutLine rest).1 = true → ∃ z2 σ2, Ev FF lnX z .ret z2 ∧ AgreeE σ σ2 ∧ Sim (VE4 a σ2) (tmpl [] [] (bkE4 { l with st := 2, pend := some .ret })) z2) := by
  obtain ⟨z1, σ1, e1, g1, S1⟩ := lnLine1 out a rest l hσ S hne (by omega)
  obtain ⟨z0, eA, e3⟩ := e1.seqI
  have hlen := cutLine_len rest
  refine ⟨fun h => ?_, fun h => ?_⟩
  · obtain ⟨z2, σ2, e2, h24, g2, S2⟩ := lnGood1 out a _ _ l S1.heap.inj (L.agree g1) S1 (by omega) ho h (by omega)
    refine ⟨z2, σ2, ?_, g1.trans g2, S2⟩
    exact eA.seq (Ev.block (id := 1) (e3.assoc (e2.seq (Ev.cond (x := .t 24) (t := false) (rg_of h24) (Ev.skip _)))))
  · obtain ⟨z2, σ2, e2, h24, g2, S2⟩ := lnBad1 out a _ _ l S1.heap.inj (L.agree g1) S1 (by omega) h
    refine ⟨z2, σ2, ?_, ⟨g2.1.trans (g1 0 (by decide)), g2.2.1.trans (g1 1 (by decide)), g2.2.2.1.trans (g1 2 (by decide)), g2.2.2.2.trans (g1 6 (by decide))⟩, S2⟩
    exact eA.seq (Ev.block (id := 1) (e3.assoc (e2.seq (Ev.cond (x := .t 24) (t := true) (rg_of h24) (Ev.ret _)))))

/-- How the lines' loop ends. -/
def LoopPost (res : List Cl × Nat × Int) (σ : Nat → Nat) (l : ALoop) (z : St) : Prop :=
  (res.1 ≠ [] ∧ res.2.2 = 0 ∧ ∃ z' σ' rest', Ev FF (.loop lnX) z (.ext 0) z' ∧ Agree σ σ' ∧ Sim (V1 res.1 res.2.1 rest' σ') (tmpl [] [] (bk1 l)) z') ∨
  (res.1 = [] ∧ res.2.2 = 1 ∧ ∃ z' σ', Ev FF (.loop lnX) z .ret z' ∧ AgreeE σ σ' ∧ Sim (VE4 res.2.1 σ') (tmpl [] [] (bkE4 { l with st := 2, pend := some .ret })) z')
theorem AgreeE.of {a b c : Nat → Nat} (h1 : Agree a b) (h2 : AgreeE b c) : AgreeE a c := ⟨h2.1.trans (h1 0 (by decide)), h2.2.1.trans (h1 1 (by decide)), h2.2.2.1.trans (h1 2 (by decide)), h2.2.2.2.trans (h1 6 (by decide))⟩
theorem lnLoop (l : ALoop) : ∀ (n : Nat) (out : List Cl) (a : Nat) (rest : List UInt8) {z : St} {σ : Nat → Nat}, out ≠ [] → rest.length < n → out.length + rest.length ≤ 1000000 → a + rest.length ≤ 1000000 → (∀ i j, σ i = σ j → i = j) → LOk σ l →
    Sim (V1 out a rest σ) (tmpl [0, 1] w01 (bk1 l)) z → LoopPost (parseGo n out a rest) σ l z := by
  intro n
  induction n with
  | zero => intro out a rest z σ _ h; omega
  | succ n ih =>
    intro out a rest z σ hout hn h1 h2 hσ L S
    unfold parseGo
    by_cases hr : rest = []
    · rw [if_pos hr]
      obtain ⟨z1, e1, S1⟩ := lnEnd1 out a rest l hσ S (by rw [hr]; simp)
      refine .inl ⟨hout, rfl, z1, _, _, Ev.loopJ (e1.seqJ (by intro h; cases h)) (by intro h; cases h), ?_, S1⟩
      intro j hj
      rcases lt7 hj with rfl | rfl | rfl | rfl | rfl | rfl | rfl <;> rfl
    · rw [if_neg hr]
      have hlen := cutLine_len rest
      have hpos := cutLine_ne hr
      obtain ⟨hg, hb⟩ := lnStep1 out a rest l hσ L S hr h2 (by omega)
      by_cases hk : lineOk (cutLine rest).1 = true
      · rw [if_pos hk]
        obtain ⟨z2, σ2, e2, g2, S2⟩ := hg hk
        rcases ih (out ++ [lineC (cutLine rest).1]) (a + (cutLine rest).1.length) (cutLine rest).2 (by simp) (by omega) (by rw [List.length_append, List.length_singleton]; omega) (by omega) S2.heap.inj (L.agree g2) S2 with ⟨x1, x2, z', σ', rest', x3, x4, x5⟩ | ⟨x1, x2, z', σ', x3, x4, x5⟩
        · exact .inl ⟨x1, x2, z', σ', rest', e2.loop x3, g2.trans x4, x5⟩
        · exact .inr ⟨x1, x2, z', σ', e2.loop x3, AgreeE.of g2 x4, x5⟩
      · rw [if_neg hk]
        obtain ⟨z2, σ2, e2, g2, S2⟩ := hb hk
        exact .inr ⟨rfl, rfl, z2, σ2, Ev.loopJ e2 (by intro h; cases h), g2, S2⟩
end Go.Proofs.Hz
open Go Go.Proofs
namespace Go.Proofs.Hz
set_option maxRecDepth 20000
theorem ln_eq' : (fnOf FF 39).body = .block 0 (.loop lnX) := by
  rw [ln_eq]; rfl
/-- The same state, told of fewer blocks to come. -/
theorem Sim.up {ρ ρ' : Val} {ts : List Nat} {ws : List AV} {cs : List Blk} {Y : List Blk} {s c : St} (S : Sim ρ s c) (hr : ∀ t v, (tmpl ts ws cs).r.get t = some v → c.r.get t = some (gm ρ' v)) (hh : s.h = (tmpl ts ws cs).h) (hn : s.nx = cs.length) (hσ : ρ'.σ = ρ.σ) (hlo : ρ.lo ≤ ρ'.lo) (hl : ρ'.lo ≤ cs.length) (hb1 : cs.map (gB ρ) = Y) (hb2 : cs.map (gB ρ') = Y) : Sim ρ' (tmpl ts ws cs) c := by
  have hb := hb1.trans hb2.symm
  refine ⟨hr, ⟨fun id k hk => ?_, fun id h1 h2 => ?_, by rw [hσ]; exact S.heap.inj⟩, fun i => ?_, hl⟩
  · have hm := ofL_get (show (ofL (idx 0 cs)).get id = some k from hk)
    obtain ⟨_, hj⟩ := idx_mem hm
    have e1 := congrArg (·[id - 0]?) hb
    simp only [List.getElem?_map, hj, Option.map_some, Option.some.injEq] at e1
    rw [hσ, S.heap.get id k (by rw [hh]; exact hk), e1]
  · rw [hσ]; exact S.heap.absent id (by omega) (by rw [hh]; exact h2)
  · rw [hσ, ← S.nxs i, hn]; rfl
/-- What Parse answers. -/
def pRes (p : List Cl × Nat × Int) : AV := .tup [.im (p.1.map eC) p.1.isEmpty, .int .i64 (p.2.1 : Int), .int .i64 p.2.2]
abbrev σ6 : Nat → Nat := sig (fun i => i) [0, 1, 2, 3, 4, 5] 6
def bkS : List Blk := [.cells [.im [] true] false 37, .cells [.int .i64 0] false 3, .cells [.int .i64 0] false 28, .cells [.im [] true] false 37, .cells [vt 0] false 3, .cells [vt 1] false 9]
theorem out_ext0 : (AE.ext 0).out 0 = .nrm := rfl
/-- How the loop over the lines ends, from the begin. -/
theorem parse_loop (s : List UInt8) (hl : s.length ≤ 1000000) {z : St} {σ : Nat → Nat} (l : ALoop) (hσ : ∀ i j, σ i = σ j → i = j) (L : LOk σ l) (S : Sim (V0 [] 0 s σ) (tmpl [0, 1] w01 (bk0 l)) z) :
    (s = [] ∧ ∃ z' σ', Ev FF (.loop lnX) z (.ext 0) z' ∧ Agree σ σ' ∧ Sim (V0 [] 0 s σ') (tmpl [] [] (bk0 l)) z') ∨ LoopPost (parseF s) σ l z := by
  by_cases hs : s = []
  · obtain ⟨z1, e1, S1⟩ := lnEnd0 [] 0 s l hσ S (by rw [hs]; simp)
    refine .inl ⟨hs, z1, _, Ev.loopJ (e1.seqJ (by intro h; cases h)) (by intro h; cases h), ?_, S1⟩
    intro j hj
    rcases lt7 hj with rfl | rfl | rfl | rfl | rfl | rfl | rfl <;> rfl
  · have hlen := cutLine_len s
    have hpos := cutLine_ne hs
    obtain ⟨hg, hb⟩ := lnStep0 [] 0 s l hσ L S hs (by omega)
    refine .inr ?_
    unfold parseF
    rw [parseGo, if_neg hs]
    by_cases hk : lineOk (cutLine s).1 = true
    · rw [if_pos hk, List.nil_append]
      obtain ⟨z2, σ2, e2, g2, S2⟩ := hg hk
      rcases lnLoop l s.length [lineC (cutLine s).1] (0 + (cutLine s).1.length) (cutLine s).2 (by simp) (by omega) (by rw [List.length_singleton]; omega) (by omega) S2.heap.inj (L.agree g2) S2 with ⟨x1, x2, z', σ', rest', x3, x4, x5⟩ | ⟨x1, x2, z', σ', x3, x4, x5⟩
      · exact .inl ⟨x1, x2, z', σ', rest', e2.loop x3, g2.trans x4, x5⟩
      · exact .inr ⟨x1, x2, z', σ', e2.loop x3, AgreeE.of g2 x4, x5⟩
    · rw [if_neg hk]
      obtain ⟨z2, σ2, e2, g2, S2⟩ := hb hk
      exact .inr ⟨rfl, rfl, z2, σ2, Ev.loopJ e2 (by intro h; cases h), g2, S2⟩
theorem parse_ok (s : List UInt8) (hl : s.length ≤ 1000000) : Spec FF 17 [.str s] (pRes (parseF s)) := by
  refine spec_begin (ρ := valL [.str s] [] [] (fun i => i) 0) (xs := [vt 0]) (by kernel_rfl) rfl rfl (by kernel_rfl) (fun z S => ?_)
  rw [pa_eq]
  obtain ⟨z1, e1, S1⟩ := paStart s S
  obtain ⟨zA, kA, e2⟩ := e1.seqI
  obtain ⟨zB, kB, e3⟩ := e2.seqI
  obtain ⟨zC, kC, kD⟩ := e3.seqI
  refine J_seqEv kA (J_seqEv kB (J_seqEv kC ?_))
  have hnx : σ6 6 = z1.nx := S1.nxs 0
  have hnx' : z1.nx = 6 := by rw [← hnx]; rfl
  have h11 : (AO.t 11).ev z1 = .fn 39 [] [.ptr (σ6 5) 0] := rg_of ((S1.regs 11 (.fn 39 [] [.ptr 5 0]) (by kernel_rfl)).trans (by kernel_rfl))
  have hregs : ∀ j, j < 5 → z1.r.get (j + 2) = some (.ptr (σ6 j) 0) := fun j hj => by
    have : j = 0 ∨ j = 1 ∨ j = 2 ∨ j = 3 ∨ j = 4 := by omega
    rcases this with rfl | rfl | rfl | rfl | rfl
    · exact (S1.regs 2 (.ptr 0 0) (by kernel_rfl)).trans (by kernel_rfl)
    · exact (S1.regs 3 (.ptr 1 0) (by kernel_rfl)).trans (by kernel_rfl)
    · exact (S1.regs 4 (.ptr 2 0) (by kernel_rfl)).trans (by kernel_rfl)
    · exact (S1.regs 5 (.ptr 3 0) (by kernel_rfl)).trans (by kernel_rfl)
    · exact (S1.regs 6 (.ptr 4 0) (by kernel_rfl)).trans (by kernel_rfl)
  have L : LOk σ6 { st := 0, pend := none, r := z1.r, ps := [12], asg := paG, body := paH, nt := 31 } := ⟨rfl, rfl, rfl, rfl, rfl, hregs⟩
  generalize hl0 : ({ st := 0, pend := none, r := z1.r, ps := [12], asg := paG, body := paH, nt := 31 } : ALoop) = l0 at L
  have SI : Sim (V0 [] 0 s σ6) (tmpl [0, 1] w01 (bk0 l0)) { r := inits 0 (.yld z1.nx :: [.ptr (σ6 5) 0]) .nil, h := z1.h.put z1.nx (some (.loop l0)), nx := z1.nx + 1 } := by
    have S2 : Sim _ ((tmpl [2, 3, 4, 5, 6, 11] (wP ++ [.fn 39 [] [.ptr 5 0]]) bkS).new (.loop l0)) (z1.new (.loop l0)) := Sim.new S1 (.loop l0)
    have S3 := S2.regs' (s' := (tmpl [2, 3, 4, 5, 6, 11] (wP ++ [.fn 39 [] [.ptr 5 0]]) bkS).new (.loop l0)) (c' := z1.new (.loop l0)) S2.regs rfl rfl rfl rfl
    have S4 : Sim (valL [.int .i64 0, .str s] [] [] σ6 6) { r := .nil, h := ((tmpl [2, 3, 4, 5, 6, 11] (wP ++ [.fn 39 [] [.ptr 5 0]]) bkS).new (.loop l0)).h, nx := 7 } { r := inits 0 (.yld z1.nx :: [.ptr (σ6 5) 0]) .nil, h := z1.h.put z1.nx (some (.loop l0)), nx := z1.nx + 1 } :=
      S3.regs' (fun t u hu => by rw [show (({ r := .nil, h := ((tmpl [2, 3, 4, 5, 6, 11] (wP ++ [.fn 39 [] [.ptr 5 0]]) bkS).new (.loop l0)).h, nx := 7 } : St)).r.get t = none from T.get_nil _] at hu; cases hu) rfl rfl rfl rfl
    refine S4.up (fun t u hu => ?_) (by kernel_rfl) rfl rfl (Nat.le_succ 6) (Nat.le_refl 7) rfl (by kernel_rfl)
    have hm := ofL_get (show (ofL ([0, 1].zip w01)).get t = some u from hu)
    simp only [w01, List.zip, List.zipWith, List.mem_cons, Prod.mk.injEq, List.not_mem_nil, or_false] at hm
    show (inits 0 (.yld z1.nx :: [.ptr (σ6 5) 0]) .nil).get t = _
    rw [inits_get, hnx']
    rcases hm with ⟨rfl, rfl⟩ | ⟨rfl, rfl⟩
    · exact (by kernel_rfl : some (AV.yld 6) = some (gm (V0 [] 0 s σ6) (.yld 6)))
    · exact (by kernel_rfl : some (AV.ptr (σ6 5) 0) = some (gm (V0 [] 0 s σ6) (.ptr 5 0)))
  have ring : ∀ {e1 : AE} {z' : St} {l1 : ALoop}, Ev FF (.loop lnX) { r := inits 0 (.yld z1.nx :: [.ptr (σ6 5) 0]) .nil, h := z1.h.put z1.nx (some (.loop l0)), nx := z1.nx + 1 } e1 z' → (e1.out 0 = .nrm ∨ e1.out 0 = .ret) → z'.h.get z1.nx = some (.loop l1) → l1.st ≠ 1 →
      Ev FF (.rngf 31 (.t 11) [12] paG paH) z1 (AE.after l1.pend) { r := z1.r, h := z'.h.put z1.nx (some (.loop { l1 with st := 3 })), nx := z'.nx } := fun {e1 z' l1} he ho hz hs => by
    subst hl0
    exact Ev.rngf (fn := fnOf FF 39) h11 (by kernel_rfl) (by kernel_rfl) (by kernel_rfl) (by rw [ln_eq']; exact he.block) ho hz hs
  have sim6 : ∀ {σ' : Nat → Nat}, Agree σ6 σ' → σ' 6 = z1.nx := fun g => (g 6 (by decide)).trans hnx
  have outer : ∀ {σ' : Nat → Nat} {ρ : Val} {t : Nat} {u : AV}, Agree σ6 σ' → gm ρ (.ptr 0 0) = .ptr (σ' 0) 0 → gm ρ (.ptr 1 0) = .ptr (σ' 1) 0 → gm ρ (.ptr 2 0) = .ptr (σ' 2) 0 → gm ρ (.ptr 3 0) = .ptr (σ' 3) 0 → gm ρ (.ptr 4 0) = .ptr (σ' 4) 0 →
      (ofL ([2, 3, 4, 5, 6].zip wP)).get t = some u → z1.r.get t = some (gm ρ u) := fun {σ' ρ t u} g a0 a1 a2 a3 a4 hu => by
    have hm := ofL_get hu
    simp only [wP, List.zip, List.zipWith, List.mem_cons, Prod.mk.injEq, List.not_mem_nil, or_false] at hm
    rcases hm with ⟨rfl, rfl⟩ | ⟨rfl, rfl⟩ | ⟨rfl, rfl⟩ | ⟨rfl, rfl⟩ | ⟨rfl, rfl⟩
    · rw [a0, g 0 (by decide)]; exact hregs 0 (by decide)
    · rw [a1, g 1 (by decide)]; exact hregs 1 (by decide)
    · rw [a2, g 2 (by decide)]; exact hregs 2 (by decide)
    · rw [a3, g 3 (by decide)]; exact hregs 3 (by decide)
    · rw [a4, g 4 (by decide)]; exact hregs 4 (by decide)
  have hpend : AE.after l0.pend = .nrm := by rw [L.pend]; rfl
  rcases parse_loop s hl (σ := σ6) l0 SI.heap.inj L SI with ⟨hs, z', σ', x3, x4, x5⟩ | ⟨x1, x2, z', σ', rest', x3, x4, x5⟩ | ⟨x1, x2, z', σ', x3, x4, x5⟩
  · have hz : z'.h.get z1.nx = some (.loop l0) := by
      rw [← sim6 x4]
      exact x5.heap.get 6 (.loop l0) (by kernel_rfl)
    have he := (ring x3 (.inl rfl) hz (by rw [L.st]; decide)).block (id := 0)
    rw [hpend] at he
    have S6 := x5.hp' 6 { l0 with st := 3 } (sim6 x4)
    rw [show ({ tmpl [] [] (bk0 l0) with h := (tmpl [] [] (bk0 l0)).h.put 6 (some (.loop { l0 with st := 3 })) } : St) = tmpl [] [] (bk0 { l0 with st := 3 }) by kernel_rfl] at S6
    have hr : pRes (parseF s) = .tup [.im [] true, .int .i64 ((0 : Nat) : Int), .int .i64 0] := by rw [hs]; rfl
    rw [hr]
    refine J_seqEv (kD.seq he) (paFin0 [] 0 s { l0 with st := 3 } x5.heap.inj (S6.regs' (fun t u hu => ?_) rfl rfl rfl rfl))
    exact outer x4 (by kernel_rfl) (by kernel_rfl) (by kernel_rfl) (by kernel_rfl) (by kernel_rfl) hu
  · have hz : z'.h.get z1.nx = some (.loop l0) := by
      rw [← sim6 x4]
      exact x5.heap.get 6 (.loop l0) (by kernel_rfl)
    have he := (ring x3 (.inl rfl) hz (by rw [L.st]; decide)).block (id := 0)
    rw [hpend] at he
    generalize parseF s = res at x1 x2 x5 ⊢
    obtain ⟨out, a, er⟩ := res
    simp only at x1 x2 x5
    subst x2
    have S6 := x5.hp' 6 { l0 with st := 3 } (sim6 x4)
    rw [show ({ tmpl [] [] (bk1 l0) with h := (tmpl [] [] (bk1 l0)).h.put 6 (some (.loop { l0 with st := 3 })) } : St) = tmpl [] [] (bk1 { l0 with st := 3 }) by kernel_rfl] at S6
    have hr : pRes (out, a, 0) = .tup [.im (out.map eC) false, .int .i64 (a : Int), .int .i64 0] := by
      unfold pRes
      cases out with
      | nil => exact absurd rfl x1
      | cons c o => rfl
    rw [hr]
    refine J_seqEv (kD.seq he) (paFin1 out a rest' { l0 with st := 3 } x5.heap.inj (S6.regs' (fun t u hu => ?_) rfl rfl rfl rfl))
    exact outer x4 (by kernel_rfl) (by kernel_rfl) (by kernel_rfl) (by kernel_rfl) (by kernel_rfl) hu
  · have h6 : σ' 3 = z1.nx := x4.2.2.2.trans hnx
    have hz : z'.h.get z1.nx = some (.loop { l0 with st := 2, pend := some .ret }) := by
      rw [← h6]
      exact x5.heap.get 3 (.loop { l0 with st := 2, pend := some .ret }) (by kernel_rfl)
    have he := (ring x3 (.inr rfl) hz (by show (2 : Nat) ≠ 1; decide)).block (id := 0)
    generalize parseF s = res at x1 x2 x5 ⊢
    obtain ⟨out, a, er⟩ := res
    simp only at x1 x2 x5
    subst x1; subst x2
    have S6 := x5.hp' 3 { ({ l0 with st := 2, pend := some .ret } : ALoop) with st := 3 } h6
    rw [show ({ tmpl [] [] (bkE4 { l0 with st := 2, pend := some .ret }) with h := (tmpl [] [] (bkE4 { l0 with st := 2, pend := some .ret })).h.put 3 (some (.loop { ({ l0 with st := 2, pend := some .ret } : ALoop) with st := 3 })) } : St) = tmpl [] [] (bkE4 { ({ l0 with st := 2, pend := some .ret } : ALoop) with st := 3 }) by kernel_rfl] at S6
    refine J_seqJ (e := .ret) (kD.seq he) (by intro h; cases h) (paFinE a { ({ l0 with st := 2, pend := some .ret } : ALoop) with st := 3 } x5.heap.inj (S6.regs' (fun t u hu => ?_) rfl rfl rfl rfl))
    have hm := ofL_get (show (ofL ([2, 3, 4].zip [AV.ptr 0 0, .ptr 1 0, .ptr 2 0])).get t = some u from hu)
    simp only [List.zip, List.zipWith, List.mem_cons, Prod.mk.injEq, List.not_mem_nil, or_false] at hm
    obtain ⟨g0, g1, g2, _⟩ := x4
    rcases hm with ⟨rfl, rfl⟩ | ⟨rfl, rfl⟩ | ⟨rfl, rfl⟩
    · exact (hregs 0 (by decide)).trans (by rw [show gm (VE4 a σ') (.ptr 0 0) = .ptr (σ' 0) 0 by kernel_rfl, g0])
    · exact (hregs 1 (by decide)).trans (by rw [show gm (VE4 a σ') (.ptr 1 0) = .ptr (σ' 1) 0 by kernel_rfl, g1])
    · exact (hregs 2 (by decide)).trans (by rw [show gm (VE4 a σ') (.ptr 2 0) = .ptr (σ' 2) 0 by kernel_rfl, g2])
end Go.Proofs.Hz
open Go Go.Proofs
namespace Go.Proofs.Hz
theorem parseGo_zero (out : List Cl) (a : Nat) (rest : List UInt8) : parseGo 0 out a rest = (out, a, 0) := rfl
theorem parseGo_nil (n : Nat) (out : List Cl) (a : Nat) : parseGo n out a [] = (out, a, 0) := by
  cases n with
  | zero => rfl
  | succ n => unfold parseGo; rw [if_pos rfl]
theorem parseGo_step {n : Nat} {out : List Cl} {a : Nat} {rest : List UInt8} (h : rest ≠ []) : parseGo (n + 1) out a rest =
    if lineOk (cutLine rest).1 = true then parseGo n (out ++ [lineC (cutLine rest).1]) (a + (cutLine rest).1.length) (cutLine rest).2 else ([], a, 1) := by
  rw [parseGo, if_neg h]
/-- How it goes on does not depend on what was told already. -/
theorem parseGo_shift : ∀ (n m : Nat) (out : List Cl) (a : Nat) (rest : List UInt8), rest.length < n → rest.length < m →
    (parseGo n out a rest).2.1 = a + (parseGo m [] 0 rest).2.1 ∧ (parseGo n out a rest).2.2 = (parseGo m [] 0 rest).2.2 ∧
    (((parseGo m [] 0 rest).2.2 = 0 ∧ (parseGo n out a rest).1 = out ++ (parseGo m [] 0 rest).1) ∨ ((parseGo m [] 0 rest).2.2 = 1 ∧ (parseGo n out a rest).1 = [] ∧ (parseGo m [] 0 rest).1 = [])) := by
  intro n
  induction n with
  | zero => intro m out a rest h; omega
  | succ n ih =>
    intro m out a rest hn hm
    cases m with
    | zero => omega
    | succ m =>
      by_cases hr : rest = []
      · subst hr
        rw [parseGo_nil, parseGo_nil]
        exact ⟨rfl, rfl, .inl ⟨rfl, by simp⟩⟩
      · rw [parseGo_step hr, parseGo_step hr]
        by_cases hk : lineOk (cutLine rest).1 = true
        · rw [if_pos hk, if_pos hk]
          have hlen := cutLine_len rest
          have hpos := cutLine_ne hr
          obtain ⟨a1, a2, a3⟩ := ih ((cutLine rest).2.length + 1) (out ++ [lineC (cutLine rest).1]) (a + (cutLine rest).1.length) (cutLine rest).2 (by omega) (by omega)
          obtain ⟨b1, b2, b3⟩ := ih ((cutLine rest).2.length + 1) ([] ++ [lineC (cutLine rest).1]) (0 + (cutLine rest).1.length) (cutLine rest).2 (by omega) (by omega)
          have key : ∀ p, p = parseGo m ([] ++ [lineC (cutLine rest).1]) (0 + (cutLine rest).1.length) (cutLine rest).2 → parseGo n ([] ++ [lineC (cutLine rest).1]) (0 + (cutLine rest).1.length) (cutLine rest).2 = p := fun p hp => by
            subst hp
            exact parseGo_fuel _ _ _ _ _ (by omega) (by omega)
          rw [← key _ rfl, a1, a2, b1, b2]
          refine ⟨by omega, rfl, ?_⟩
          rcases b3 with ⟨b3, b4⟩ | ⟨b3, b4, b5⟩
          · refine .inl ⟨b3, ?_⟩
            rcases a3 with ⟨_, a4⟩ | ⟨a3, _⟩
            · rw [a4, b4]; simp
            · omega
          · refine .inr ⟨b3, ?_, b4⟩
            rcases a3 with ⟨a3, _⟩ | ⟨_, a4, _⟩
            · omega
            · exact a4
        · rw [if_neg hk, if_neg hk]
          exact ⟨rfl, rfl, .inr ⟨rfl, rfl, rfl⟩⟩
where
  parseGo_fuel : ∀ (n m : Nat) (out : List Cl) (a : Nat) (rest : List UInt8), rest.length < n → rest.length < m → parseGo n out a rest = parseGo m out a rest := by
    intro n
    induction n with
    | zero => intro m out a rest h; omega
    | succ n ih =>
      intro m out a rest hn hm
      cases m with
      | zero => omega
      | succ m =>
        by_cases hr : rest = []
        · subst hr; rw [parseGo_nil, parseGo_nil]
        · rw [parseGo_step hr, parseGo_step hr]
          have hlen := cutLine_len rest
          have hpos := cutLine_ne hr
          split
          · exact ih _ _ _ _ (by omega) (by omega)
          · rfl
/-- What is parsed. -/
theorem parseGo_told : ∀ (n : Nat) (rest : List UInt8), rest.length < n →
    ((parseGo n [] 0 rest).2.2 = 0 ∧ (parseGo n [] 0 rest).2.1 = rest.length ∧ printF (parseGo n [] 0 rest).1 = rest ∧ writtenF (parseGo n [] 0 rest).1 = true ∧ (parseGo n [] 0 rest).1.length ≤ rest.length) ∨
    ((parseGo n [] 0 rest).2.2 = 1 ∧ (parseGo n [] 0 rest).1 = [] ∧ (parseGo n [] 0 rest).2.1 ≤ rest.length) := by
  intro n
  induction n with
  | zero => intro rest h; omega
  | succ n ih =>
    intro rest hn
    by_cases hr : rest = []
    · subst hr
      rw [parseGo_nil]
      exact .inl ⟨rfl, rfl, rfl, rfl, Nat.le_refl _⟩
    · rw [parseGo_step hr]
      have hlen := cutLine_len rest
      have hpos := cutLine_ne hr
      by_cases hk : lineOk (cutLine rest).1 = true
      · rw [if_pos hk]
        obtain ⟨a1, a2, a3⟩ := parseGo_shift n n ([] ++ [lineC (cutLine rest).1]) (0 + (cutLine rest).1.length) (cutLine rest).2 (by omega) (by omega)
        obtain ⟨w1, w2⟩ := line_of hk
        rw [a1, a2]
        rcases ih (cutLine rest).2 (by omega) with ⟨c1, c2, c3, c4, c5⟩ | ⟨c1, c2, c3⟩
        · refine .inl ⟨c1, by omega, ?_⟩
          rcases a3 with ⟨_, a4⟩ | ⟨a3, _⟩
          · rw [a4]
            refine ⟨?_, ?_, ?_⟩
            · rw [List.nil_append, printF_append, printF_one, c3, w2, cutLine_app]
            · unfold writtenF at c4 ⊢
              rw [List.nil_append, List.all_append, c4]
              simp [w1]
            · simp only [List.nil_append, List.length_append, List.length_singleton]; omega
          · omega
        · refine .inr ⟨c1, ?_, by omega⟩
          rcases a3 with ⟨a3, _⟩ | ⟨_, a4, _⟩
          · omega
          · exact a4
      · rw [if_neg hk]
        exact .inr ⟨rfl, rfl, Nat.zero_le _⟩
theorem parseF_told (s : List UInt8) :
    ((parseF s).2.2 = 0 ∧ (parseF s).2.1 = s.length ∧ printF (parseF s).1 = s ∧ writtenF (parseF s).1 = true ∧ (parseF s).1.length ≤ s.length) ∨ ((parseF s).2.2 = 1 ∧ (parseF s).1 = [] ∧ (parseF s).2.1 ≤ s.length) :=
  parseGo_told (s.length + 1) s (by omega)
theorem cutLine_at : ∀ {u x : List UInt8}, (10 : UInt8) ∉ u → cutLine (u ++ 10 :: x) = (u ++ [10], x)
  | [], x, _ => by unfold cutLine; rfl
  | c :: u, x, h => by
    simp only [List.mem_cons, not_or] at h
    rw [List.cons_append, cutLine, if_neg (fun e => h.1 e.symm), cutLine_at h.2]
    rfl
theorem lineF_cut {c : Cl} (h : writtenC c = true) (x : List UInt8) : cutLine (lineF c ++ x) = (lineF c, x) := by
  have h0 : (0 ≤ c.no ∧ c.no ≤ 9) ∧ inW c.a = true ∧ inW c.b = true := by simpa [writtenC] using h
  obtain ⟨h1, h2, h3⟩ := h0
  have k2 : -9223372036854775808 ≤ c.a ∧ c.a ≤ 9223372036854775807 := by simp only [inW, decide_eq_true_eq] at h2; omega
  have k3 : -9223372036854775808 ≤ c.b ∧ c.b ≤ 9223372036854775807 := by simp only [inW, decide_eq_true_eq] at h3; omega
  have e : lineF c = (wordK c.no ++ 32 :: (itoaK c.a ++ 32 :: itoaK c.b)) ++ [10] := by simp [lineF]
  have hn : (10 : UInt8) ∉ wordK c.no ++ 32 :: (itoaK c.a ++ 32 :: itoaK c.b) := by
    simp only [List.mem_append, List.mem_cons, not_or]
    exact ⟨(word_no h1).2.1, by decide, (itoaK_no k2).2.1, by decide, (itoaK_no k3).2.1⟩
  rw [e, List.append_assoc, List.singleton_append, cutLine_at hn]
/-- A text behind whole ones. -/
theorem parseGo_print : ∀ (l : List Cl) (n m : Nat) (out : List Cl) (a : Nat) (s : List UInt8), writtenF l = true → (printF l ++ s).length < n → s.length < m → parseGo n out a (printF l ++ s) = parseGo m (out ++ l) (a + (printF l).length) s := by
  intro l
  induction l with
  | nil =>
    intro n m out a s _ hn hm
    simp only [printF, List.map_nil, List.flatten_nil, List.nil_append, List.length_nil, List.append_nil, Nat.add_zero] at hn ⊢
    exact parseGo_shift.parseGo_fuel _ _ _ _ _ hn hm
  | cons c l ih =>
    intro n m out a s hw hn hm
    have hc : writtenC c = true ∧ writtenF l = true := by simpa [writtenF] using hw
    have e : printF (c :: l) = lineF c ++ printF l := by simp [printF]
    rw [e] at hn ⊢
    rw [List.append_assoc] at hn ⊢
    have hne : lineF c ++ (printF l ++ s) ≠ [] := by simp [lineF]
    cases n with
    | zero => omega
    | succ n =>
      obtain ⟨k1, k2⟩ := line_to hc.1
      rw [parseGo_step hne, lineF_cut hc.1]
      simp only
      have hlp : 0 < (lineF c).length := List.length_pos_iff.2 (by simp [lineF])
      rw [if_pos k1, k2, ih n m _ _ s hc.2 (by rw [List.length_append] at hn; omega) hm]
      simp only [List.append_assoc, List.singleton_append, List.length_append]
      rw [Nat.add_assoc]
theorem parseF_print {l : List Cl} (h : writtenF l = true) : parseF (printF l) = (l, (printF l).length, 0) := by
  have := parseGo_print l ((printF l).length + 1) 1 [] 0 [] h (by simp) (by simp)
  rw [List.append_nil, parseGo_nil] at this
  unfold parseF
  rw [this]
  simp
theorem parseF_behind {l : List Cl} (h : writtenF l = true) (s : List UInt8) :
    (parseF (printF l ++ s)).2.1 = (printF l).length + (parseF s).2.1 ∧ (parseF (printF l ++ s)).2.2 = (parseF s).2.2 ∧ ((parseF s).2.2 = 0 → l.length ≤ (parseF (printF l ++ s)).1.length) := by
  have e := parseGo_print l ((printF l ++ s).length + 1) (s.length + 1) [] 0 s h (by omega) (by omega)
  obtain ⟨a1, a2, a3⟩ := parseGo_shift (s.length + 1) (s.length + 1) ([] ++ l) (0 + (printF l).length) s (by omega) (by omega)
  unfold parseF
  rw [e]
  refine ⟨by omega, a2, fun h0 => ?_⟩
  rcases a3 with ⟨_, a4⟩ | ⟨a3, _⟩
  · rw [a4]; simp
  · omega
theorem parse_ok1 (s : List UInt8) (hl : s.length ≤ 1000000) {p : List Cl × Nat × Int} (h : p = parseF s) : Spec FF 17 [.str s] (.tup [.im (p.1.map eC) p.1.isEmpty, .int .i64 (p.2.1 : Int), .int .i64 p.2.2]) := by
  subst h
  exact parse_ok s hl
end Go.Proofs.Hz
