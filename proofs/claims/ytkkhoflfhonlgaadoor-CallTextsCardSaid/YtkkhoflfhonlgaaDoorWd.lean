/-
  Chapter 15: rows of syscalls: the same, written.
  Conditions: none.
-/
import Derived.Test.YtkkhoflfhonlgaaDoorN
open Go Go.Proofs
namespace Go.Proofs.Hz
def qword (no : Int) : Option AV :=
  if no = 0 then
    some (.str [115, 101, 110, 100])
  else
    if no = 1 then
      some (.str [114, 101, 99, 118])
    else
      if no = 2 then
        some (.str [116, 114, 121])
      else
        if no = 3 then
          some (.str [112, 117, 116])
        else
          if no = 4 then
            some (.str [108, 111, 111, 107])
          else
            if no = 5 then
              some (.str [99, 117, 116])
            else
              if no = 6 then
                some (.str [115, 101, 116])
              else
                if no = 7 then
                  some (.str [114, 101, 115, 101, 116])
                else
                  if no = 8 then
                    some (.str [116, 101, 115, 116])
                  else
                    if no = 9 then some (.str [121, 105, 101, 108, 100]) else none
def qwordW : List AV := [(vt 0)]
def qwordV (no : Int) (σ : Nat → Nat) : Val := (valL ([.int .i64 no]) ([]) [] σ 0)
def qwordX (no : Int) (_σ : Nat → Nat) : List AV := [(.int .i64 no)]
def qwordY (_no : Int) (_σ : Nat → Nat) : List Blk := []
theorem qwordE (no : Int) (σ : Nat → Nat) : qwordW.map (gm (qwordV no σ)) = qwordX no σ := by kernel_rfl
theorem qwordG (no : Int) (σ : Nat → Nat) : ([] : List Blk).map (gB (qwordV no σ)) = qwordY no σ := by kernel_rfl
set_option maxHeartbeats 10000000 in
theorem qword_ok (no : Int) {r0 : AV} (h : qword no = some r0) : Spec FF 37 [(.int .i64 no)] r0 := by
  unfold qword at h
  have hσ : ∀ i j : Nat, (fun i : Nat => i) i = (fun i : Nat => i) j → i = j := fun _ _ e => e
  exact spec_begin (ρ := qwordV no (fun i => i)) (xs := qwordW) (by kernel_rfl) rfl rfl (by kernel_rfl) (fun z0 S => have H := Tok.start hσ S 0 1 0 0 ([.int .i64 no]) ([]) [] (.n) .n (qwordE no _) (qwordG no _); iteE h (fun h0 h => have H := H.c (p := (.iaS 1 (.c (.sl 0 0 10 1 (some 10))) (cT 0), (.ptr 0 0))) (fun _ _ _ => fIaSl (j := 0) (k := .i64) (m := no) (by kernel_rfl) h0 (by decide) (by decide)); H.e [] h) (fun _ h => iteE h (fun h1 h => have H := H.c (p := (.iaS 1 (.c (.sl 0 0 10 1 (some 10))) (cT 0), (.ptr 0 1))) (fun _ _ _ => fIaSl (j := 1) (k := .i64) (m := no) (by kernel_rfl) h1 (by decide) (by decide)); H.e [] h) (fun _ h => iteE h (fun h2 h => have H := H.c (p := (.iaS 1 (.c (.sl 0 0 10 1 (some 10))) (cT 0), (.ptr 0 2))) (fun _ _ _ => fIaSl (j := 2) (k := .i64) (m := no) (by kernel_rfl) h2 (by decide) (by decide)); H.e [] h) (fun _ h => iteE h (fun h3 h => have H := H.c (p := (.iaS 1 (.c (.sl 0 0 10 1 (some 10))) (cT 0), (.ptr 0 3))) (fun _ _ _ => fIaSl (j := 3) (k := .i64) (m := no) (by kernel_rfl) h3 (by decide) (by decide)); H.e [] h) (fun _ h => iteE h (fun h4 h => have H := H.c (p := (.iaS 1 (.c (.sl 0 0 10 1 (some 10))) (cT 0), (.ptr 0 4))) (fun _ _ _ => fIaSl (j := 4) (k := .i64) (m := no) (by kernel_rfl) h4 (by decide) (by decide)); H.e [] h) (fun _ h => iteE h (fun h5 h => have H := H.c (p := (.iaS 1 (.c (.sl 0 0 10 1 (some 10))) (cT 0), (.ptr 0 5))) (fun _ _ _ => fIaSl (j := 5) (k := .i64) (m := no) (by kernel_rfl) h5 (by decide) (by decide)); H.e [] h) (fun _ h => iteE h (fun h6 h => have H := H.c (p := (.iaS 1 (.c (.sl 0 0 10 1 (some 10))) (cT 0), (.ptr 0 6))) (fun _ _ _ => fIaSl (j := 6) (k := .i64) (m := no) (by kernel_rfl) h6 (by decide) (by decide)); H.e [] h) (fun _ h => iteE h (fun h7 h => have H := H.c (p := (.iaS 1 (.c (.sl 0 0 10 1 (some 10))) (cT 0), (.ptr 0 7))) (fun _ _ _ => fIaSl (j := 7) (k := .i64) (m := no) (by kernel_rfl) h7 (by decide) (by decide)); H.e [] h) (fun _ h => iteE h (fun h8 h => have H := H.c (p := (.iaS 1 (.c (.sl 0 0 10 1 (some 10))) (cT 0), (.ptr 0 8))) (fun _ _ _ => fIaSl (j := 8) (k := .i64) (m := no) (by kernel_rfl) h8 (by decide) (by decide)); H.e [] h) (fun _ h => reqE h (fun h9 h => have H := H.c (p := (.iaS 1 (.c (.sl 0 0 10 1 (some 10))) (cT 0), (.ptr 0 9))) (fun _ _ _ => fIaSl (j := 9) (k := .i64) (m := no) (by kernel_rfl) h9 (by decide) (by decide)); H.e [] h)))))))))))

def qequal_0 : Nat → List Cl → Bool → List Cl → Bool → Int → Option AV
  | 0, _, _, _, _, _ => none
  | fu + 1, l, bl, m, bm, p0 =>
    if p0 < (List.length l : Int) then
      if 0 ≤ p0 then Option.bind (l[Int.toNat p0]?) fun x2 =>
      Option.bind (m[Int.toNat p0]?) fun x3 =>
      if (!((x2.no : Int) == x3.no && ((x2.a : Int) == x3.a && ((x2.b : Int) == x3.b && true)))) = true then
        some (.bool false)
      else
        qequal_0 fu l bl m bm (w64 (p0 + 1)) else none
    else
      some (.bool true)
def qequal_0W : List AV := [(vf 0), (vf 1), (vt 0), (vt 1)]
def qequal_0C : List Blk := []
def qequal_0V (l : List Cl) (bl : Bool) (m : List Cl) (bm : Bool) (p0 : Int) (σ : Nat → Nat) : Val := (valL ([.int .i64 (List.length l : Int), .int .i64 p0]) ([.im (List.map eC l) bl, .im (List.map eC m) bm]) [] σ 0)
def qequal_0X (l : List Cl) (bl : Bool) (m : List Cl) (bm : Bool) (p0 : Int) (_σ : Nat → Nat) : List AV := [(.im (List.map eC l) bl), (.im (List.map eC m) bm), (.int .i64 (List.length l : Int)), (.int .i64 p0)]
def qequal_0Y (_l : List Cl) (_bl : Bool) (_m : List Cl) (_bm : Bool) (_p0 : Int) (_σ : Nat → Nat) : List Blk := []
theorem qequal_0E (l : List Cl) (bl : Bool) (m : List Cl) (bm : Bool) (p0 : Int) (σ : Nat → Nat) : qequal_0W.map (gm (qequal_0V l bl m bm p0 σ)) = qequal_0X l bl m bm p0 σ := by kernel_rfl
theorem qequal_0G (l : List Cl) (bl : Bool) (m : List Cl) (bm : Bool) (p0 : Int) (σ : Nat → Nat) : qequal_0C.map (gB (qequal_0V l bl m bm p0 σ)) = qequal_0Y l bl m bm p0 σ := by kernel_rfl
theorem qequal_0_ok : ∀ (fu : Nat) (l : List Cl) (bl : Bool) (m : List Cl) (bm : Bool) (p0 : Int) {r0 : AV} {z0 : St} {σ : Nat → Nat}, (∀ i j, σ i = σ j → i = j) → qequal_0 fu l bl m bm p0 = some r0 → Sim (qequal_0V l bl m bm p0 σ) (tmpl [0, 1, 12, 13] qequal_0W qequal_0C) z0 → J FF (fnOf FF 32) (cutK (fnOf FF 32) 0) (.code (.loop (cutB (fnOf FF 32) 0))) z0 r0 := by
  intro fu
  induction fu with
  | zero =>
    intro _ _ _ _ _ _ _ _ _ h _
    unfold qequal_0 at h
    cases h
  | succ fu ih =>
    intro l bl m bm p0 r0 z0 σ hσ h S
    unfold qequal_0 at h
    exact J_enter (have H := Tok.start hσ S 0 2 2 0 ([.int .i64 (List.length l : Int), .int .i64 p0]) ([.im (List.map eC l) bl, .im (List.map eC m) bm]) [] (.c (OkF.im eC_ok _ _) <| .c (OkF.im eC_ok _ _) <| .n) (.n) (qequal_0E l bl m bm p0 _) (qequal_0G l bl m bm p0 _); have H := H.t 3 [.bool (decide (p0 < (List.length l : Int)))] |>.r [(.bin .lss (cT 1) (cT 0), (vt 2))]; iteE h (fun h0 h => have H := H.m 2 true (decide_eq_true h0); reqE h (fun h1 h => bindE h (fun x2 h2 h => have H := H.t 6 [.int .i64 x2.no, .int .i64 x2.a, .int .i64 x2.b] |>.c (p := (.iaS 3 (cF 0) (cT 1), (.ip [(vt 3), (vt 4), (vt 5)] 0))) (fun _ _ _ => fIa (sz := 3) (e := eC) (l := l) (b := bl) (k := .i64) (n := p0) (y := x2) eC_ok (by kernel_rfl) (by kernel_rfl) h1 h2 (by kernel_rfl)); bindE h (fun x3 h3 h => have H := H.t 10 [.int .i64 x3.no, .int .i64 x3.a, .int .i64 x3.b, .bool (!((x2.no : Int) == x3.no && ((x2.a : Int) == x3.a && ((x2.b : Int) == x3.b && true))))] |>.r [(.eqa true [0, 0, 0] (.c (.agg [(vt 3), (vt 4), (vt 5)])) (.c (.agg [(vt 6), (vt 7), (vt 8)])), (vt 9))] |>.c (p := (.iaS 3 (cF 1) (cT 1), (.ip [(vt 6), (vt 7), (vt 8)] 0))) (fun _ _ _ => fIa (sz := 3) (e := eC) (l := m) (b := bm) (k := .i64) (n := p0) (y := x3) eC_ok (by kernel_rfl) (by kernel_rfl) h1 h3 (by kernel_rfl)); iteE h (fun h4 h => have H := H.m 9 true h4; H.e [0] h) (fun h4 h => have H := H.t 11 [.int .i64 (w64 (p0 + 1))] |>.r [(.bin .add (cT 1) (cI 1), (vt 10))] |>.m 9 false (bF h4); H.k [0] [0, 1, 12, 13] [] [(vf 0), (vf 1), (vt 0), (vt 10)] [] 9 (qequal_0V l bl m bm (w64 (p0 + 1)) _) (qequal_0E l bl m bm (w64 (p0 + 1)) _) (qequal_0G l bl m bm (w64 (p0 + 1)) _) (fun _ hi S => ih _ _ _ _ _ hi h S)))))) (fun h0 h => have H := H.m 2 false (decide_eq_false h0); H.e [0] h))
def qequal (fu : Nat) (l : List Cl) (bl : Bool) (m : List Cl) (bm : Bool) : Option AV :=
  if (List.length l : Int) = (List.length m : Int) then
    qequal_0 fu l bl m bm 0
  else
    some (.bool false)
def qequalW : List AV := [(vf 0), (vf 1)]
def qequalV (l : List Cl) (bl : Bool) (m : List Cl) (bm : Bool) (σ : Nat → Nat) : Val := (valL ([]) ([.im (List.map eC l) bl, .im (List.map eC m) bm]) [] σ 0)
def qequalX (l : List Cl) (bl : Bool) (m : List Cl) (bm : Bool) (_σ : Nat → Nat) : List AV := [(.im (List.map eC l) bl), (.im (List.map eC m) bm)]
def qequalY (_l : List Cl) (_bl : Bool) (_m : List Cl) (_bm : Bool) (_σ : Nat → Nat) : List Blk := []
theorem qequalE (l : List Cl) (bl : Bool) (m : List Cl) (bm : Bool) (σ : Nat → Nat) : qequalW.map (gm (qequalV l bl m bm σ)) = qequalX l bl m bm σ := by kernel_rfl
theorem qequalG (l : List Cl) (bl : Bool) (m : List Cl) (bm : Bool) (σ : Nat → Nat) : ([] : List Blk).map (gB (qequalV l bl m bm σ)) = qequalY l bl m bm σ := by kernel_rfl
theorem qequal_ok {fu : Nat} (l : List Cl) (bl : Bool) (m : List Cl) (bm : Bool) {r0 : AV} (h : qequal fu l bl m bm = some r0) : Spec FF 32 [(.im (List.map eC l) bl), (.im (List.map eC m) bm)] r0 := by
  unfold qequal at h
  have hσ : ∀ i j : Nat, (fun i : Nat => i) i = (fun i : Nat => i) j → i = j := fun _ _ e => e
  exact spec_begin (ρ := qequalV l bl m bm (fun i => i)) (xs := qequalW) (by kernel_rfl) rfl rfl (by kernel_rfl) (fun z0 S => have H := Tok.start hσ S 0 0 2 0 ([]) ([.im (List.map eC l) bl, .im (List.map eC m) bm]) [] (.c (OkF.im eC_ok _ _) <| .c (OkF.im eC_ok _ _) <| .n) .n (qequalE l bl m bm _) (qequalG l bl m bm _); have H := H.t 3 [.int .i64 (List.length l : Int), .int .i64 (List.length m : Int), .bool (!decide ((List.length l : Int) = (List.length m : Int)))] |>.r [(.bin .neq (cT 0) (cT 1), (vt 2))] |>.c (p := (.len 0 (cF 0), (vt 0))) (fun _ _ _ => fLen (e := eC) (l := l) (b := bl) (by kernel_rfl) (by kernel_rfl)) |>.c (p := (.len 0 (cF 1), (vt 1))) (fun _ _ _ => fLen (e := eC) (l := m) (b := bm) (by kernel_rfl) (by kernel_rfl)); iteE h (fun h0 h => have H := H.m 2 false (nT h0); H.k [0] [0, 1, 12, 13] [] [(vf 0), (vf 1), (vt 0), (.int .i64 0)] [] 0 (qequal_0V l bl m bm 0 _) (qequal_0E l bl m bm 0 _) (qequal_0G l bl m bm 0 _) (fun _ hi S => qequal_0_ok _ _ _ _ _ _ hi h S)) (fun h0 h => have H := H.m 2 true (nF h0); H.e [0] h))

def qsameR_0 : Nat → List Cl → Bool → List Cl → Bool → Int → Option AV
  | 0, _, _, _, _, _ => none
  | fu + 1, l, bl, m, bm, p0 =>
    if p0 < (List.length l : Int) then
      if 0 ≤ p0 then Option.bind (l[Int.toNat p0]?) fun x2 =>
      Option.bind (m[Int.toNat p0]?) fun x3 =>
      if (!((x2.no : Int) == x3.no && ((x2.a : Int) == x3.a && ((x2.b : Int) == x3.b && true)))) = true then
        some (.bool false)
      else
        qsameR_0 fu l bl m bm (w64 (p0 + 1)) else none
    else
      some (.bool true)
def qsameR_0W : List AV := [(vf 0), (vf 1), (vt 0)]
def qsameR_0C : List Blk := []
def qsameR_0V (l : List Cl) (bl : Bool) (m : List Cl) (bm : Bool) (p0 : Int) (σ : Nat → Nat) : Val := (valL ([.int .i64 p0]) ([.im (List.map eC l) bl, .im (List.map eC m) bm]) [] σ 0)
def qsameR_0X (l : List Cl) (bl : Bool) (m : List Cl) (bm : Bool) (p0 : Int) (_σ : Nat → Nat) : List AV := [(.im (List.map eC l) bl), (.im (List.map eC m) bm), (.int .i64 p0)]
def qsameR_0Y (_l : List Cl) (_bl : Bool) (_m : List Cl) (_bm : Bool) (_p0 : Int) (_σ : Nat → Nat) : List Blk := []
theorem qsameR_0E (l : List Cl) (bl : Bool) (m : List Cl) (bm : Bool) (p0 : Int) (σ : Nat → Nat) : qsameR_0W.map (gm (qsameR_0V l bl m bm p0 σ)) = qsameR_0X l bl m bm p0 σ := by kernel_rfl
theorem qsameR_0G (l : List Cl) (bl : Bool) (m : List Cl) (bm : Bool) (p0 : Int) (σ : Nat → Nat) : qsameR_0C.map (gB (qsameR_0V l bl m bm p0 σ)) = qsameR_0Y l bl m bm p0 σ := by kernel_rfl
theorem qsameR_0_ok : ∀ (fu : Nat) (l : List Cl) (bl : Bool) (m : List Cl) (bm : Bool) (p0 : Int) {r0 : AV} {z0 : St} {σ : Nat → Nat}, (∀ i j, σ i = σ j → i = j) → qsameR_0 fu l bl m bm p0 = some r0 → Sim (qsameR_0V l bl m bm p0 σ) (tmpl [0, 1, 5] qsameR_0W qsameR_0C) z0 → J FF (fnOf FF 19) (cutK (fnOf FF 19) 0) (.code (.loop (cutB (fnOf FF 19) 0))) z0 r0 := by
  intro fu
  induction fu with
  | zero =>
    intro _ _ _ _ _ _ _ _ _ h _
    unfold qsameR_0 at h
    cases h
  | succ fu ih =>
    intro l bl m bm p0 r0 z0 σ hσ h S
    unfold qsameR_0 at h
    exact J_enter (have H := Tok.start hσ S 0 1 2 0 ([.int .i64 p0]) ([.im (List.map eC l) bl, .im (List.map eC m) bm]) [] (.c (OkF.im eC_ok _ _) <| .c (OkF.im eC_ok _ _) <| .n) (.n) (qsameR_0E l bl m bm p0 _) (qsameR_0G l bl m bm p0 _); have H := H.t 3 [.int .i64 (List.length l : Int), .bool (decide (p0 < (List.length l : Int)))] |>.r [(.bin .lss (cT 0) (cT 1), (vt 2))] |>.c (p := (.len 0 (cF 0), (vt 1))) (fun _ _ _ => fLen (e := eC) (l := l) (b := bl) (by kernel_rfl) (by kernel_rfl)); iteE h (fun h0 h => have H := H.m 2 true (decide_eq_true h0); reqE h (fun h1 h => bindE h (fun x2 h2 h => have H := H.t 6 [.int .i64 x2.no, .int .i64 x2.a, .int .i64 x2.b] |>.c (p := (.iaS 3 (cF 0) (cT 0), (.ip [(vt 3), (vt 4), (vt 5)] 0))) (fun _ _ _ => fIa (sz := 3) (e := eC) (l := l) (b := bl) (k := .i64) (n := p0) (y := x2) eC_ok (by kernel_rfl) (by kernel_rfl) h1 h2 (by kernel_rfl)); bindE h (fun x3 h3 h => have H := H.t 10 [.int .i64 x3.no, .int .i64 x3.a, .int .i64 x3.b, .bool (!((x2.no : Int) == x3.no && ((x2.a : Int) == x3.a && ((x2.b : Int) == x3.b && true))))] |>.r [(.eqa true [0, 0, 0] (.c (.agg [(vt 3), (vt 4), (vt 5)])) (.c (.agg [(vt 6), (vt 7), (vt 8)])), (vt 9))] |>.c (p := (.iaS 3 (cF 1) (cT 0), (.ip [(vt 6), (vt 7), (vt 8)] 0))) (fun _ _ _ => fIa (sz := 3) (e := eC) (l := m) (b := bm) (k := .i64) (n := p0) (y := x3) eC_ok (by kernel_rfl) (by kernel_rfl) h1 h3 (by kernel_rfl)); iteE h (fun h4 h => have H := H.m 9 true h4; H.e [0] h) (fun h4 h => have H := H.t 11 [.int .i64 (w64 (p0 + 1))] |>.r [(.bin .add (cT 0) (cI 1), (vt 10))] |>.m 9 false (bF h4); H.k [0] [0, 1, 5] [] [(vf 0), (vf 1), (vt 10)] [] 9 (qsameR_0V l bl m bm (w64 (p0 + 1)) _) (qsameR_0E l bl m bm (w64 (p0 + 1)) _) (qsameR_0G l bl m bm (w64 (p0 + 1)) _) (fun _ hi S => ih _ _ _ _ _ hi h S)))))) (fun h0 h => have H := H.m 2 false (decide_eq_false h0); H.e [0] h))
def qsameR (fu : Nat) (l : List Cl) (bl : Bool) (m : List Cl) (bm : Bool) : Option AV :=
  if (List.length l : Int) = (List.length m : Int) then
    qsameR_0 fu l bl m bm 0
  else
    some (.bool false)
def qsameRW : List AV := [(vf 0), (vf 1)]
def qsameRV (l : List Cl) (bl : Bool) (m : List Cl) (bm : Bool) (σ : Nat → Nat) : Val := (valL ([]) ([.im (List.map eC l) bl, .im (List.map eC m) bm]) [] σ 0)
def qsameRX (l : List Cl) (bl : Bool) (m : List Cl) (bm : Bool) (_σ : Nat → Nat) : List AV := [(.im (List.map eC l) bl), (.im (List.map eC m) bm)]
def qsameRY (_l : List Cl) (_bl : Bool) (_m : List Cl) (_bm : Bool) (_σ : Nat → Nat) : List Blk := []
theorem qsameRE (l : List Cl) (bl : Bool) (m : List Cl) (bm : Bool) (σ : Nat → Nat) : qsameRW.map (gm (qsameRV l bl m bm σ)) = qsameRX l bl m bm σ := by kernel_rfl
theorem qsameRG (l : List Cl) (bl : Bool) (m : List Cl) (bm : Bool) (σ : Nat → Nat) : ([] : List Blk).map (gB (qsameRV l bl m bm σ)) = qsameRY l bl m bm σ := by kernel_rfl
theorem qsameR_ok {fu : Nat} (l : List Cl) (bl : Bool) (m : List Cl) (bm : Bool) {r0 : AV} (h : qsameR fu l bl m bm = some r0) : Spec FF 19 [(.im (List.map eC l) bl), (.im (List.map eC m) bm)] r0 := by
  unfold qsameR at h
  have hσ : ∀ i j : Nat, (fun i : Nat => i) i = (fun i : Nat => i) j → i = j := fun _ _ e => e
  exact spec_begin (ρ := qsameRV l bl m bm (fun i => i)) (xs := qsameRW) (by kernel_rfl) rfl rfl (by kernel_rfl) (fun z0 S => have H := Tok.start hσ S 0 0 2 0 ([]) ([.im (List.map eC l) bl, .im (List.map eC m) bm]) [] (.c (OkF.im eC_ok _ _) <| .c (OkF.im eC_ok _ _) <| .n) .n (qsameRE l bl m bm _) (qsameRG l bl m bm _); have H := H.t 3 [.int .i64 (List.length l : Int), .int .i64 (List.length m : Int), .bool (!decide ((List.length l : Int) = (List.length m : Int)))] |>.r [(.bin .neq (cT 0) (cT 1), (vt 2))] |>.c (p := (.len 0 (cF 0), (vt 0))) (fun _ _ _ => fLen (e := eC) (l := l) (b := bl) (by kernel_rfl) (by kernel_rfl)) |>.c (p := (.len 0 (cF 1), (vt 1))) (fun _ _ _ => fLen (e := eC) (l := m) (b := bm) (by kernel_rfl) (by kernel_rfl)); iteE h (fun h0 h => have H := H.m 2 false (nT h0); H.k [0] [0, 1, 5] [] [(vf 0), (vf 1), (.int .i64 0)] [] 0 (qsameR_0V l bl m bm 0 _) (qsameR_0E l bl m bm 0 _) (qsameR_0G l bl m bm 0 _) (fun _ hi S => qsameR_0_ok _ _ _ _ _ _ hi h S)) (fun h0 h => have H := H.m 2 true (nF h0); H.e [0] h))

def qwritten_0 : Nat → List Cl → Bool → Int → Option AV
  | 0, _, _, _ => none
  | fu + 1, l, bl, p0 =>
    if p0 < (List.length l : Int) then
      if 0 ≤ p0 then Option.bind (l[Int.toNat p0]?) fun x2 =>
      if x2.no < 0 then
        some (.bool false)
      else
        if x2.no > 9 then
          some (.bool false)
        else
          if x2.a < (-4611686018427387904) then
            some (.bool false)
          else
            if x2.a > 4611686018427387904 then
              some (.bool false)
            else
              if x2.b < (-4611686018427387904) then
                some (.bool false)
              else
                if x2.b > 4611686018427387904 then
                  some (.bool false)
                else
                  qwritten_0 fu l bl (w64 (p0 + 1)) else none
    else
      some (.bool true)
def qwritten_0W : List AV := [(vf 0), (vt 0)]
def qwritten_0C : List Blk := []
def qwritten_0V (l : List Cl) (bl : Bool) (p0 : Int) (σ : Nat → Nat) : Val := (valL ([.int .i64 p0]) ([.im (List.map eC l) bl]) [] σ 0)
def qwritten_0X (l : List Cl) (bl : Bool) (p0 : Int) (_σ : Nat → Nat) : List AV := [(.im (List.map eC l) bl), (.int .i64 p0)]
def qwritten_0Y (_l : List Cl) (_bl : Bool) (_p0 : Int) (_σ : Nat → Nat) : List Blk := []
theorem qwritten_0E (l : List Cl) (bl : Bool) (p0 : Int) (σ : Nat → Nat) : qwritten_0W.map (gm (qwritten_0V l bl p0 σ)) = qwritten_0X l bl p0 σ := by kernel_rfl
theorem qwritten_0G (l : List Cl) (bl : Bool) (p0 : Int) (σ : Nat → Nat) : qwritten_0C.map (gB (qwritten_0V l bl p0 σ)) = qwritten_0Y l bl p0 σ := by kernel_rfl
set_option maxHeartbeats 10000000 in
theorem qwritten_0_ok : ∀ (fu : Nat) (l : List Cl) (bl : Bool) (p0 : Int) {r0 : AV} {z0 : St} {σ : Nat → Nat}, (∀ i j, σ i = σ j → i = j) → qwritten_0 fu l bl p0 = some r0 → Sim (qwritten_0V l bl p0 σ) (tmpl [0, 3] qwritten_0W qwritten_0C) z0 → J FF (fnOf FF 21) (cutK (fnOf FF 21) 0) (.code (.loop (cutB (fnOf FF 21) 0))) z0 r0 := by
  intro fu
  induction fu with
  | zero =>
    intro _ _ _ _ _ _ _ h _
    unfold qwritten_0 at h
    cases h
  | succ fu ih =>
    intro l bl p0 r0 z0 σ hσ h S
    unfold qwritten_0 at h
    exact J_enter (have H := Tok.start hσ S 0 1 1 0 ([.int .i64 p0]) ([.im (List.map eC l) bl]) [] (.c (OkF.im eC_ok _ _) <| .n) (.n) (qwritten_0E l bl p0 _) (qwritten_0G l bl p0 _); have H := H.t 3 [.int .i64 (List.length l : Int), .bool (decide (p0 < (List.length l : Int)))] |>.r [(.bin .lss (cT 0) (cT 1), (vt 2))] |>.c (p := (.len 0 (cF 0), (vt 1))) (fun _ _ _ => fLen (e := eC) (l := l) (b := bl) (by kernel_rfl) (by kernel_rfl)); iteE h (fun h0 h => have H := H.m 2 true (decide_eq_true h0); reqE h (fun h1 h => bindE h (fun x2 h2 h => have H := H.t 7 [.int .i64 x2.no, .int .i64 x2.a, .int .i64 x2.b, .bool (decide (x2.no < 0))] |>.r [(.bin .lss (cT 3) (cI 0), (vt 6))] |>.c (p := (.iaS 3 (cF 0) (cT 0), (.ip [(vt 3), (vt 4), (vt 5)] 0))) (fun _ _ _ => fIa (sz := 3) (e := eC) (l := l) (b := bl) (k := .i64) (n := p0) (y := x2) eC_ok (by kernel_rfl) (by kernel_rfl) h1 h2 (by kernel_rfl)); iteE h (fun h3 h => have H := H.m 6 true (decide_eq_true h3); H.e [0] h) (fun h3 h => have H := H.t 8 [.bool (decide (x2.no > 9))] |>.r [(.bin .gtr (cT 3) (cI 9), (vt 7))] |>.m 6 false (decide_eq_false h3); iteE h (fun h4 h => have H := H.m 7 true (decide_eq_true h4); H.e [0] h) (fun h4 h => have H := H.t 9 [.bool (decide (x2.a < (-4611686018427387904)))] |>.r [(.bin .lss (cT 4) (cI (-4611686018427387904)), (vt 8))] |>.m 7 false (decide_eq_false h4); iteE h (fun h5 h => have H := H.m 8 true (decide_eq_true h5); H.e [0] h) (fun h5 h => have H := H.t 10 [.bool (decide (x2.a > 4611686018427387904))] |>.r [(.bin .gtr (cT 4) (cI 4611686018427387904), (vt 9))] |>.m 8 false (decide_eq_false h5); iteE h (fun h6 h => have H := H.m 9 true (decide_eq_true h6); H.e [0] h) (fun h6 h => have H := H.t 11 [.bool (decide (x2.b < (-4611686018427387904)))] |>.r [(.bin .lss (cT 5) (cI (-4611686018427387904)), (vt 10))] |>.m 9 false (decide_eq_false h6); iteE h (fun h7 h => have H := H.m 10 true (decide_eq_true h7); H.e [0] h) (fun h7 h => have H := H.t 12 [.bool (decide (x2.b > 4611686018427387904))] |>.r [(.bin .gtr (cT 5) (cI 4611686018427387904), (vt 11))] |>.m 10 false (decide_eq_false h7); iteE h (fun h8 h => have H := H.m 11 true (decide_eq_true h8); H.e [0] h) (fun h8 h => have H := H.t 13 [.int .i64 (w64 (p0 + 1))] |>.r [(.bin .add (cT 0) (cI 1), (vt 12))] |>.m 11 false (decide_eq_false h8); H.k [0] [0, 3] [] [(vf 0), (vt 12)] [] 1 (qwritten_0V l bl (w64 (p0 + 1)) _) (qwritten_0E l bl (w64 (p0 + 1)) _) (qwritten_0G l bl (w64 (p0 + 1)) _) (fun _ hi S => ih _ _ _ hi h S)))))))))) (fun h0 h => have H := H.m 2 false (decide_eq_false h0); H.e [0] h))
def qwritten (fu : Nat) (l : List Cl) (bl : Bool) : Option AV :=
  qwritten_0 fu l bl 0
def qwrittenW : List AV := [(vf 0)]
def qwrittenV (l : List Cl) (bl : Bool) (σ : Nat → Nat) : Val := (valL ([]) ([.im (List.map eC l) bl]) [] σ 0)
def qwrittenX (l : List Cl) (bl : Bool) (_σ : Nat → Nat) : List AV := [(.im (List.map eC l) bl)]
def qwrittenY (_l : List Cl) (_bl : Bool) (_σ : Nat → Nat) : List Blk := []
theorem qwrittenE (l : List Cl) (bl : Bool) (σ : Nat → Nat) : qwrittenW.map (gm (qwrittenV l bl σ)) = qwrittenX l bl σ := by kernel_rfl
theorem qwrittenG (l : List Cl) (bl : Bool) (σ : Nat → Nat) : ([] : List Blk).map (gB (qwrittenV l bl σ)) = qwrittenY l bl σ := by kernel_rfl
theorem qwritten_ok {fu : Nat} (l : List Cl) (bl : Bool) {r0 : AV} (h : qwritten fu l bl = some r0) : Spec FF 21 [(.im (List.map eC l) bl)] r0 := by
  unfold qwritten at h
  have hσ : ∀ i j : Nat, (fun i : Nat => i) i = (fun i : Nat => i) j → i = j := fun _ _ e => e
  exact spec_begin (ρ := qwrittenV l bl (fun i => i)) (xs := qwrittenW) (by kernel_rfl) rfl rfl (by kernel_rfl) (fun z0 S => have H := Tok.start hσ S 0 0 1 0 ([]) ([.im (List.map eC l) bl]) [] (.c (OkF.im eC_ok _ _) <| .n) .n (qwrittenE l bl _) (qwrittenG l bl _); H.k [0] [0, 3] [] [(vf 0), (.int .i64 0)] [] 0 (qwritten_0V l bl 0 _) (qwritten_0E l bl 0 _) (qwritten_0G l bl 0 _) (fun _ hi S => qwritten_0_ok _ _ _ _ hi h S))

end Go.Proofs.Hz
open Go Go.Proofs
namespace Go.Proofs.Hz
theorem w64_at {i n : Nat} (h : i < n) (hn : n ≤ 1000000) : w64 ((i : Int) + 1) = ((i + 1 : Nat) : Int) := by
  unfold w64 IntKind.wrap
  simp [IntKind.signed, IntKind.bits]
  omega
theorem cl_beq (x y : Cl) : (!((x.no : Int) == y.no && ((x.a : Int) == y.a && ((x.b : Int) == y.b && true)))) = true ↔ x ≠ y := by
  constructor
  · intro h e
    subst e
    simp at h
  · intro h
    simp only [Bool.and_true, Bool.not_eq_true', Bool.and_eq_false_iff, beq_eq_false_iff_ne]
    by_cases h1 : x.no = y.no
    · by_cases h2 : x.a = y.a
      · by_cases h3 : x.b = y.b
        · exact absurd (Cl.ext' h1 h2 h3) h
        · exact .inr (.inr h3)
      · exact .inr (.inl h2)
    · exact .inl h1
theorem rows_ne {l m : List Cl} {i : Nat} {x y : Cl} (hx : l[i]? = some x) (hy : m[i]? = some y) (h : x ≠ y) : l ≠ m := fun e => by subst e; rw [hx] at hy; exact h (Option.some.inj hy)
theorem qequal_0_eq (l m : List Cl) (bl bm : Bool) (hl : l.length = m.length) (hn : l.length ≤ 1000000) : ∀ (k i : Nat), i + k = l.length → l.take i = m.take i → qequal_0 (k + 1) l bl m bm i = some (.bool (eqC l m)) := by
  intro k
  induction k with
  | zero =>
    intro i hi ht
    unfold qequal_0
    rw [if_neg (by omega)]
    have : l = m := by
      have h1 : l.take i = l := List.take_of_length_le (by omega)
      have h2 : m.take i = m := List.take_of_length_le (by omega)
      rw [← h1, ← h2]; exact ht
    simp [eqC, this]
  | succ k ih =>
    intro i hi ht
    have h1 : i < l.length := by omega
    have h2 : i < m.length := by omega
    unfold qequal_0
    rw [if_pos (by omega), if_pos (by omega)]
    simp only [Int.toNat_natCast, List.getElem?_eq_getElem h1, List.getElem?_eq_getElem h2, Option.bind_some]
    by_cases hc : l[i] = m[i]
    · rw [if_neg (fun h => (cl_beq _ _).1 h hc), w64_at h1 hn]
      refine ih (i + 1) (by omega) ?_
      rw [List.take_succ_eq_append_getElem h1, List.take_succ_eq_append_getElem h2, ht, hc]
    · rw [if_pos ((cl_beq _ _).2 hc)]
      have := rows_ne (List.getElem?_eq_getElem h1) (List.getElem?_eq_getElem h2) hc
      simp [eqC, this]
theorem qequal_eq (l m : List Cl) (bl bm : Bool) (hn : l.length ≤ 1000000) : qequal (l.length + 1) l bl m bm = some (.bool (eqC l m)) := by
  unfold qequal
  by_cases h : l.length = m.length
  · rw [if_pos (by omega)]
    exact qequal_0_eq l m bl bm h hn l.length 0 (by omega) (by simp)
  · rw [if_neg (by omega)]
    have : l ≠ m := fun e => h (e ▸ rfl)
    simp [eqC, this]
theorem qsameR_0_eq (l m : List Cl) (bl bm : Bool) (hl : l.length = m.length) (hn : l.length ≤ 1000000) : ∀ (k i : Nat), i + k = l.length → l.take i = m.take i → qsameR_0 (k + 1) l bl m bm i = some (.bool (eqC l m)) := by
  intro k
  induction k with
  | zero =>
    intro i hi ht
    unfold qsameR_0
    rw [if_neg (by omega)]
    have : l = m := by
      have h1 : l.take i = l := List.take_of_length_le (by omega)
      have h2 : m.take i = m := List.take_of_length_le (by omega)
      rw [← h1, ← h2]; exact ht
    simp [eqC, this]
  | succ k ih =>
    intro i hi ht
    have h1 : i < l.length := by omega
    have h2 : i < m.length := by omega
    unfold qsameR_0
    rw [if_pos (by omega), if_pos (by omega)]
    simp only [Int.toNat_natCast, List.getElem?_eq_getElem h1, List.getElem?_eq_getElem h2, Option.bind_some]
    by_cases hc : l[i] = m[i]
    · rw [if_neg (fun h => (cl_beq _ _).1 h hc), w64_at h1 hn]
      refine ih (i + 1) (by omega) ?_
      rw [List.take_succ_eq_append_getElem h1, List.take_succ_eq_append_getElem h2, ht, hc]
    · rw [if_pos ((cl_beq _ _).2 hc)]
      have := rows_ne (List.getElem?_eq_getElem h1) (List.getElem?_eq_getElem h2) hc
      simp [eqC, this]
theorem qsameR_eq (l m : List Cl) (bl bm : Bool) (hn : l.length ≤ 1000000) : qsameR (l.length + 1) l bl m bm = some (.bool (eqC l m)) := by
  unfold qsameR
  by_cases h : l.length = m.length
  · first
      | (rw [if_pos (by omega)]; exact qsameR_0_eq l m bl bm h hn l.length 0 (by omega) (by simp))
      | (rw [if_neg (by omega)]; exact qsameR_0_eq l m bl bm h hn l.length 0 (by omega) (by simp))
  · have : l ≠ m := fun e => h (e ▸ rfl)
    first
      | (rw [if_neg (by omega)]; simp [eqC, this])
      | (rw [if_pos (by omega)]; simp [eqC, this])
theorem writtenC_iff (c : Cl) : writtenC c = true ↔ (0 ≤ c.no ∧ c.no ≤ 9) ∧ (-4611686018427387904 ≤ c.a ∧ c.a ≤ 4611686018427387904) ∧ -4611686018427387904 ≤ c.b ∧ c.b ≤ 4611686018427387904 := by
  simp [writtenC, inW]
theorem qwritten_0_eq (l : List Cl) (bl : Bool) (hn : l.length ≤ 1000000) : ∀ (k i : Nat), i + k = l.length → (l.take i).all writtenC = true → qwritten_0 (k + 1) l bl i = some (.bool (writtenF l)) := by
  intro k
  induction k with
  | zero =>
    intro i hi ht
    unfold qwritten_0
    rw [if_neg (by omega)]
    have h1 : l.take i = l := List.take_of_length_le (by omega)
    rw [h1] at ht
    simp only [writtenF, ht]
  | succ k ih =>
    intro i hi ht
    have h1 : i < l.length := by omega
    have bad : writtenC l[i] ≠ true → some (AV.bool false) = some (.bool (writtenF l)) := fun h => by
      have : writtenF l = false := by
        cases hw : writtenF l with
        | false => rfl
        | true => exact absurd (List.all_eq_true.1 hw _ (List.getElem_mem h1)) h
      rw [this]
    unfold qwritten_0
    rw [if_pos (by omega), if_pos (by omega)]
    simp only [Int.toNat_natCast, List.getElem?_eq_getElem h1, Option.bind_some]
    have hi := writtenC_iff l[i]
    by_cases hc : writtenC l[i] = true
    · obtain ⟨⟨c1, c2⟩, ⟨c3, c4⟩, c5, c6⟩ := hi.1 hc
      rw [if_neg (by omega), if_neg (by omega), if_neg (by omega), if_neg (by omega), if_neg (by omega), if_neg (by omega), w64_at h1 hn]
      refine ih (i + 1) (by omega) ?_
      rw [List.take_succ_eq_append_getElem h1, List.all_append, ht]
      simp [hc]
    · have hb := bad hc
      (repeat' split) <;> first | exact hb | (exfalso; exact hc (hi.2 (by omega)))
theorem qwritten_eq (l : List Cl) (bl : Bool) (hn : l.length ≤ 1000000) : qwritten (l.length + 1) l bl = some (.bool (writtenF l)) := by
  unfold qwritten
  exact qwritten_0_eq l bl hn l.length 0 (by omega) (by simp)
theorem kd_cases' (n : Int) : n = 0 ∨ n = 1 ∨ n = 2 ∨ n = 3 ∨ n = 4 ∨ n = 5 ∨ n = 6 ∨ n = 7 ∨ n = 8 ∨ n = 9 ∨ (n < 0 ∨ 10 ≤ n) := by omega
theorem qword_eq {no : Int} {x : List UInt8} (h : wordF no = some x) : qword no = some (.str x) := by
  unfold wordF at h
  split at h
  · cases h
    rename_i hn
    unfold qword
    rcases kd_cases' no with h | h | h | h | h | h | h | h | h | h | h
    case inr.inr.inr.inr.inr.inr.inr.inr.inr.inr => omega
    all_goals (subst h; rfl)
  · cases h
theorem equal_ok (l m : List Cl) (bl bm : Bool) (h : l.length ≤ 1000000) : Spec FF 32 [.im (l.map eC) bl, .im (m.map eC) bm] (.bool (eqC l m)) := qequal_ok l bl m bm (qequal_eq l m bl bm h)
theorem sameR_ok (l m : List Cl) (bl bm : Bool) (h : l.length ≤ 1000000) : Spec FF 19 [.im (l.map eC) bl, .im (m.map eC) bm] (.bool (eqC l m)) := qsameR_ok l bl m bm (qsameR_eq l m bl bm h)
theorem written_ok (l : List Cl) (bl : Bool) (h : l.length ≤ 1000000) : Spec FF 21 [.im (l.map eC) bl] (.bool (writtenF l)) := qwritten_ok l bl (qwritten_eq l bl h)
theorem word_ok {no : Int} {x : List UInt8} (h : wordF no = some x) : Spec FF 37 [.int .i64 no] (.str x) := qword_ok no (qword_eq h)
end Go.Proofs.Hz
