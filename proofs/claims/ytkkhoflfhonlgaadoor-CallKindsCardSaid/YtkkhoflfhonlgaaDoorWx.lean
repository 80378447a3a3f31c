/-
  Chapter 15: which syscalls there are.
  Conditions: none.
-/
import Derived.Test.YtkkhoflfhonlgaaDoorN
open Go Go.Proofs
namespace Go.Proofs.Hz
def qport (no : Int) : Option AV :=
  if no ≥ 0 then
    some (.bool (decide (no ≤ 2)))
  else
    some (.bool false)
def qportW : List AV := [(vt 0)]
def qportV (no : Int) (σ : Nat → Nat) : Val := (valL ([.int .i64 no]) ([]) [] σ 0)
def qportX (no : Int) (_σ : Nat → Nat) : List AV := [(.int .i64 no)]
def qportY (_no : Int) (_σ : Nat → Nat) : List Blk := []
theorem qportE (no : Int) (σ : Nat → Nat) : qportW.map (gm (qportV no σ)) = qportX no σ := by kernel_rfl
theorem qportG (no : Int) (σ : Nat → Nat) : ([] : List Blk).map (gB (qportV no σ)) = qportY no σ := by kernel_rfl
theorem qport_ok (no : Int) {r0 : AV} (h : qport no = some r0) : Spec FF 26 [(.int .i64 no)] r0 := by
  unfold qport at h
  have hσ : ∀ i j : Nat, (fun i : Nat => i) i = (fun i : Nat => i) j → i = j := fun _ _ e => e
  exact spec_begin (ρ := qportV no (fun i => i)) (xs := qportW) (by kernel_rfl) rfl rfl (by kernel_rfl) (fun z0 S => have H := Tok.start hσ S 0 1 0 0 ([.int .i64 no]) ([]) [] (.n) .n (qportE no _) (qportG no _); have H := H.t 2 [.bool (decide (no ≥ 0))] |>.r [(.bin .geq (cT 0) (cI 0), (vt 1))]; iteE h (fun h0 h => have H := H.t 3 [.bool (decide (no ≤ 2))] |>.r [(.bin .leq (cT 0) (cI 2), (vt 2))] |>.m 1 true (decide_eq_true h0); H.e [] h) (fun h0 h => have H := H.m 1 false (decide_eq_false h0); H.e [] h))

def qname (no : Int) : Option AV :=
  if no ≥ 3 then
    some (.bool (decide (no ≤ 5)))
  else
    some (.bool false)
def qnameW : List AV := [(vt 0)]
def qnameV (no : Int) (σ : Nat → Nat) : Val := (valL ([.int .i64 no]) ([]) [] σ 0)
def qnameX (no : Int) (_σ : Nat → Nat) : List AV := [(.int .i64 no)]
def qnameY (_no : Int) (_σ : Nat → Nat) : List Blk := []
theorem qnameE (no : Int) (σ : Nat → Nat) : qnameW.map (gm (qnameV no σ)) = qnameX no σ := by kernel_rfl
theorem qnameG (no : Int) (σ : Nat → Nat) : ([] : List Blk).map (gB (qnameV no σ)) = qnameY no σ := by kernel_rfl
theorem qname_ok (no : Int) {r0 : AV} (h : qname no = some r0) : Spec FF 27 [(.int .i64 no)] r0 := by
  unfold qname at h
  have hσ : ∀ i j : Nat, (fun i : Nat => i) i = (fun i : Nat => i) j → i = j := fun _ _ e => e
  exact spec_begin (ρ := qnameV no (fun i => i)) (xs := qnameW) (by kernel_rfl) rfl rfl (by kernel_rfl) (fun z0 S => have H := Tok.start hσ S 0 1 0 0 ([.int .i64 no]) ([]) [] (.n) .n (qnameE no _) (qnameG no _); have H := H.t 2 [.bool (decide (no ≥ 3))] |>.r [(.bin .geq (cT 0) (cI 3), (vt 1))]; iteE h (fun h0 h => have H := H.t 3 [.bool (decide (no ≤ 5))] |>.r [(.bin .leq (cT 0) (cI 5), (vt 2))] |>.m 1 true (decide_eq_true h0); H.e [] h) (fun h0 h => have H := H.m 1 false (decide_eq_false h0); H.e [] h))

def qevent (no : Int) : Option AV :=
  if no ≥ 6 then
    some (.bool (decide (no ≤ 8)))
  else
    some (.bool false)
def qeventW : List AV := [(vt 0)]
def qeventV (no : Int) (σ : Nat → Nat) : Val := (valL ([.int .i64 no]) ([]) [] σ 0)
def qeventX (no : Int) (_σ : Nat → Nat) : List AV := [(.int .i64 no)]
def qeventY (_no : Int) (_σ : Nat → Nat) : List Blk := []
theorem qeventE (no : Int) (σ : Nat → Nat) : qeventW.map (gm (qeventV no σ)) = qeventX no σ := by kernel_rfl
theorem qeventG (no : Int) (σ : Nat → Nat) : ([] : List Blk).map (gB (qeventV no σ)) = qeventY no σ := by kernel_rfl
theorem qevent_ok (no : Int) {r0 : AV} (h : qevent no = some r0) : Spec FF 28 [(.int .i64 no)] r0 := by
  unfold qevent at h
  have hσ : ∀ i j : Nat, (fun i : Nat => i) i = (fun i : Nat => i) j → i = j := fun _ _ e => e
  exact spec_begin (ρ := qeventV no (fun i => i)) (xs := qeventW) (by kernel_rfl) rfl rfl (by kernel_rfl) (fun z0 S => have H := Tok.start hσ S 0 1 0 0 ([.int .i64 no]) ([]) [] (.n) .n (qeventE no _) (qeventG no _); have H := H.t 2 [.bool (decide (no ≥ 6))] |>.r [(.bin .geq (cT 0) (cI 6), (vt 1))]; iteE h (fun h0 h => have H := H.t 3 [.bool (decide (no ≤ 8))] |>.r [(.bin .leq (cT 0) (cI 8), (vt 2))] |>.m 1 true (decide_eq_true h0); H.e [] h) (fun h0 h => have H := H.m 1 false (decide_eq_false h0); H.e [] h))

def qof (c : Cl) : Option AV :=
  if c.no < 0 then
    some (.tup [(.agg [(.str []), (.int .i64 0), (.int .i64 0), (.bool false), (.int .i64 0), (.int .i64 0), (.int .i64 0)]), (.bool false)])
  else
    if c.no ≥ 10 then
      some (.tup [(.agg [(.str []), (.int .i64 0), (.int .i64 0), (.bool false), (.int .i64 0), (.int .i64 0), (.int .i64 0)]), (.bool false)])
    else
      if c.no = 0 then
        if c.a ≥ 0 then
          if c.a < 8 then
            if c.b ≥ (-1099511627776) then
              some (.tup [(.agg [(.str [115, 101, 110, 100]), (.int .i64 28), (.int .i64 8), (.bool true), (.int .i64 1), (.int .i64 0), (.int .i64 0)]), (.bool (decide (c.b ≤ 1099511627776)))])
            else
              some (.tup [(.agg [(.str [115, 101, 110, 100]), (.int .i64 28), (.int .i64 8), (.bool true), (.int .i64 1), (.int .i64 0), (.int .i64 0)]), (.bool false)])
          else
            some (.tup [(.agg [(.str [115, 101, 110, 100]), (.int .i64 28), (.int .i64 8), (.bool true), (.int .i64 1), (.int .i64 0), (.int .i64 0)]), (.bool false)])
        else
          some (.tup [(.agg [(.str [115, 101, 110, 100]), (.int .i64 28), (.int .i64 8), (.bool true), (.int .i64 1), (.int .i64 0), (.int .i64 0)]), (.bool false)])
      else
        if c.no = 1 then
          if c.a ≥ 0 then
            if c.a < 8 then
              some (.tup [(.agg [(.str [114, 101, 99, 118]), (.int .i64 29), (.int .i64 8), (.bool false), (.int .i64 2), (.int .i64 0), (.int .i64 0)]), (.bool true)])
            else
              some (.tup [(.agg [(.str [114, 101, 99, 118]), (.int .i64 29), (.int .i64 8), (.bool false), (.int .i64 2), (.int .i64 0), (.int .i64 0)]), (.bool false)])
          else
            some (.tup [(.agg [(.str [114, 101, 99, 118]), (.int .i64 29), (.int .i64 8), (.bool false), (.int .i64 2), (.int .i64 0), (.int .i64 0)]), (.bool false)])
        else
          if c.no = 2 then
            if c.a ≥ 0 then
              if c.a < 8 then
                some (.tup [(.agg [(.str [116, 114, 121]), (.int .i64 10), (.int .i64 8), (.bool false), (.int .i64 2), (.int .i64 3), (.int .i64 0)]), (.bool true)])
              else
                some (.tup [(.agg [(.str [116, 114, 121]), (.int .i64 10), (.int .i64 8), (.bool false), (.int .i64 2), (.int .i64 3), (.int .i64 0)]), (.bool false)])
            else
              some (.tup [(.agg [(.str [116, 114, 121]), (.int .i64 10), (.int .i64 8), (.bool false), (.int .i64 2), (.int .i64 3), (.int .i64 0)]), (.bool false)])
          else
            if c.no = 3 then
              if c.a ≥ 0 then
                if c.a < 65536 then
                  if c.b ≥ (-1099511627776) then
                    some (.tup [(.agg [(.str [112, 117, 116]), (.int .i64 16), (.int .i64 65536), (.bool true), (.int .i64 4), (.int .i64 0), (.int .i64 5)]), (.bool (decide (c.b ≤ 1099511627776)))])
                  else
                    some (.tup [(.agg [(.str [112, 117, 116]), (.int .i64 16), (.int .i64 65536), (.bool true), (.int .i64 4), (.int .i64 0), (.int .i64 5)]), (.bool false)])
                else
                  some (.tup [(.agg [(.str [112, 117, 116]), (.int .i64 16), (.int .i64 65536), (.bool true), (.int .i64 4), (.int .i64 0), (.int .i64 5)]), (.bool false)])
              else
                some (.tup [(.agg [(.str [112, 117, 116]), (.int .i64 16), (.int .i64 65536), (.bool true), (.int .i64 4), (.int .i64 0), (.int .i64 5)]), (.bool false)])
            else
              if c.no = 4 then
                if c.a ≥ 0 then
                  if c.a < 65536 then
                    some (.tup [(.agg [(.str [108, 111, 111, 107]), (.int .i64 17), (.int .i64 65536), (.bool false), (.int .i64 8), (.int .i64 7), (.int .i64 0)]), (.bool true)])
                  else
                    some (.tup [(.agg [(.str [108, 111, 111, 107]), (.int .i64 17), (.int .i64 65536), (.bool false), (.int .i64 8), (.int .i64 7), (.int .i64 0)]), (.bool false)])
                else
                  some (.tup [(.agg [(.str [108, 111, 111, 107]), (.int .i64 17), (.int .i64 65536), (.bool false), (.int .i64 8), (.int .i64 7), (.int .i64 0)]), (.bool false)])
              else
                if c.no = 5 then
                  if c.a ≥ 0 then
                    if c.a < 65536 then
                      some (.tup [(.agg [(.str [99, 117, 116]), (.int .i64 18), (.int .i64 65536), (.bool false), (.int .i64 6), (.int .i64 7), (.int .i64 0)]), (.bool true)])
                    else
                      some (.tup [(.agg [(.str [99, 117, 116]), (.int .i64 18), (.int .i64 65536), (.bool false), (.int .i64 6), (.int .i64 7), (.int .i64 0)]), (.bool false)])
                  else
                    some (.tup [(.agg [(.str [99, 117, 116]), (.int .i64 18), (.int .i64 65536), (.bool false), (.int .i64 6), (.int .i64 7), (.int .i64 0)]), (.bool false)])
                else
                  if c.no = 6 then
                    if c.a ≥ 0 then
                      if c.a < 16 then
                        some (.tup [(.agg [(.str [115, 101, 116]), (.int .i64 19), (.int .i64 16), (.bool false), (.int .i64 10), (.int .i64 0), (.int .i64 0)]), (.bool true)])
                      else
                        some (.tup [(.agg [(.str [115, 101, 116]), (.int .i64 19), (.int .i64 16), (.bool false), (.int .i64 10), (.int .i64 0), (.int .i64 0)]), (.bool false)])
                    else
                      some (.tup [(.agg [(.str [115, 101, 116]), (.int .i64 19), (.int .i64 16), (.bool false), (.int .i64 10), (.int .i64 0), (.int .i64 0)]), (.bool false)])
                  else
                    if c.no = 7 then
                      if c.a ≥ 0 then
                        if c.a < 16 then
                          some (.tup [(.agg [(.str [114, 101, 115, 101, 116]), (.int .i64 20), (.int .i64 16), (.bool false), (.int .i64 11), (.int .i64 0), (.int .i64 0)]), (.bool true)])
                        else
                          some (.tup [(.agg [(.str [114, 101, 115, 101, 116]), (.int .i64 20), (.int .i64 16), (.bool false), (.int .i64 11), (.int .i64 0), (.int .i64 0)]), (.bool false)])
                      else
                        some (.tup [(.agg [(.str [114, 101, 115, 101, 116]), (.int .i64 20), (.int .i64 16), (.bool false), (.int .i64 11), (.int .i64 0), (.int .i64 0)]), (.bool false)])
                    else
                      if c.no = 8 then
                        if c.a ≥ 0 then
                          if c.a < 16 then
                            some (.tup [(.agg [(.str [116, 101, 115, 116]), (.int .i64 21), (.int .i64 16), (.bool false), (.int .i64 12), (.int .i64 0), (.int .i64 0)]), (.bool true)])
                          else
                            some (.tup [(.agg [(.str [116, 101, 115, 116]), (.int .i64 21), (.int .i64 16), (.bool false), (.int .i64 12), (.int .i64 0), (.int .i64 0)]), (.bool false)])
                        else
                          some (.tup [(.agg [(.str [116, 101, 115, 116]), (.int .i64 21), (.int .i64 16), (.bool false), (.int .i64 12), (.int .i64 0), (.int .i64 0)]), (.bool false)])
                      else
                        if c.no = 9 then some (.tup [(.agg [(.str [121, 105, 101, 108, 100]), (.int .i64 27), (.int .i64 0), (.bool false), (.int .i64 0), (.int .i64 0), (.int .i64 0)]), (.bool true)]) else none
def qofW : List AV := [(.agg [(vt 0), (vt 1), (vt 2)])]
def qofV (c : Cl) (σ : Nat → Nat) : Val := (valL ([.int .i64 c.no, .int .i64 c.a, .int .i64 c.b]) ([]) [] σ 0)
def qofX (c : Cl) (_σ : Nat → Nat) : List AV := [(.agg [(.int .i64 c.no), (.int .i64 c.a), (.int .i64 c.b)])]
def qofY (_c : Cl) (_σ : Nat → Nat) : List Blk := []
theorem qofE (c : Cl) (σ : Nat → Nat) : qofW.map (gm (qofV c σ)) = qofX c σ := by kernel_rfl
theorem qofG (c : Cl) (σ : Nat → Nat) : ([] : List Blk).map (gB (qofV c σ)) = qofY c σ := by kernel_rfl
set_option maxHeartbeats 10000000 in
theorem qof_ok (c : Cl) {r0 : AV} (h : qof c = some r0) : Spec FF 25 [(.agg [(.int .i64 c.no), (.int .i64 c.a), (.int .i64 c.b)])] r0 := by
  unfold qof at h
  have hσ : ∀ i j : Nat, (fun i : Nat => i) i = (fun i : Nat => i) j → i = j := fun _ _ e => e
  exact spec_begin (ρ := qofV c (fun i => i)) (xs := qofW) (by kernel_rfl) rfl rfl (by kernel_rfl) (fun z0 S => have H := Tok.start hσ S 0 3 0 0 ([.int .i64 c.no, .int .i64 c.a, .int .i64 c.b]) ([]) [] (.n) .n (qofE c _) (qofG c _); have H := H.t 4 [.bool (decide (c.no < 0))] |>.r [(.bin .lss (cT 0) (cI 0), (vt 3))] |>.s [] kindsA kinds_ok; iteE h (fun h0 h => have H := H.m 3 true (decide_eq_true h0); H.e [] h) (fun h0 h => have H := H.t 5 [.bool (decide (c.no ≥ 10))] |>.r [(.bin .geq (cT 0) (cI 10), (vt 4))] |>.m 3 false (decide_eq_false h0); iteE h (fun h1 h => have H := H.m 4 true (decide_eq_true h1); H.e [] h) (fun h1 h => have H := H.m 4 false (decide_eq_false h1); iteE h (fun h2 h => have H := H.t 6 [.bool (decide (c.a ≥ 0))] |>.r [(.bin .geq (cT 1) (cI 0), (vt 5))] |>.c (p := (.iaA 10 7 (.c (.ptr 2 0)) (cT 0), (.ptr 2 0))) (fun _ _ _ => fIaP (j := 0) (k := .i64) (n := c.no) (by kernel_rfl) h2 (by decide)); iteE h (fun h3 h => have H := H.t 7 [.bool (decide (c.a < 8))] |>.r [(.bin .lss (cT 1) (cI 8), (vt 6))] |>.m 5 true (decide_eq_true h3); iteE h (fun h4 h => have H := H.t 8 [.bool (decide (c.b ≥ (-1099511627776)))] |>.r [(.bin .geq (cT 2) (cI (-1099511627776)), (vt 7))] |>.m 6 true (decide_eq_true h4); iteE h (fun h5 h => have H := H.t 9 [.bool (decide (c.b ≤ 1099511627776))] |>.r [(.bin .leq (cT 2) (cI 1099511627776), (vt 8))] |>.m 7 true (decide_eq_true h5); H.e [] h) (fun h5 h => have H := H.m 7 false (decide_eq_false h5); H.e [] h)) (fun h4 h => have H := H.m 6 false (decide_eq_false h4); H.e [] h)) (fun h3 h => have H := H.m 5 false (decide_eq_false h3); H.e [] h)) (fun _ h => iteE h (fun h3 h => have H := H.t 6 [.bool (decide (c.a ≥ 0))] |>.r [(.bin .geq (cT 1) (cI 0), (vt 5))] |>.c (p := (.iaA 10 7 (.c (.ptr 2 0)) (cT 0), (.ptr 2 7))) (fun _ _ _ => fIaP (j := 1) (k := .i64) (n := c.no) (by kernel_rfl) h3 (by decide)); iteE h (fun h4 h => have H := H.t 7 [.bool (decide (c.a < 8))] |>.r [(.bin .lss (cT 1) (cI 8), (vt 6))] |>.m 5 true (decide_eq_true h4); iteE h (fun h5 h => have H := H.m 6 true (decide_eq_true h5); H.e [] h) (fun h5 h => have H := H.m 6 false (decide_eq_false h5); H.e [] h)) (fun h4 h => have H := H.m 5 false (decide_eq_false h4); H.e [] h)) (fun _ h => iteE h (fun h4 h => have H := H.t 6 [.bool (decide (c.a ≥ 0))] |>.r [(.bin .geq (cT 1) (cI 0), (vt 5))] |>.c (p := (.iaA 10 7 (.c (.ptr 2 0)) (cT 0), (.ptr 2 14))) (fun _ _ _ => fIaP (j := 2) (k := .i64) (n := c.no) (by kernel_rfl) h4 (by decide)); iteE h (fun h5 h => have H := H.t 7 [.bool (decide (c.a < 8))] |>.r [(.bin .lss (cT 1) (cI 8), (vt 6))] |>.m 5 true (decide_eq_true h5); iteE h (fun h6 h => have H := H.m 6 true (decide_eq_true h6); H.e [] h) (fun h6 h => have H := H.m 6 false (decide_eq_false h6); H.e [] h)) (fun h5 h => have H := H.m 5 false (decide_eq_false h5); H.e [] h)) (fun _ h => iteE h (fun h5 h => have H := H.t 6 [.bool (decide (c.a ≥ 0))] |>.r [(.bin .geq (cT 1) (cI 0), (vt 5))] |>.c (p := (.iaA 10 7 (.c (.ptr 2 0)) (cT 0), (.ptr 2 21))) (fun _ _ _ => fIaP (j := 3) (k := .i64) (n := c.no) (by kernel_rfl) h5 (by decide)); iteE h (fun h6 h => have H := H.t 7 [.bool (decide (c.a < 65536))] |>.r [(.bin .lss (cT 1) (cI 65536), (vt 6))] |>.m 5 true (decide_eq_true h6); iteE h (fun h7 h => have H := H.t 8 [.bool (decide (c.b ≥ (-1099511627776)))] |>.r [(.bin .geq (cT 2) (cI (-1099511627776)), (vt 7))] |>.m 6 true (decide_eq_true h7); iteE h (fun h8 h => have H := H.t 9 [.bool (decide (c.b ≤ 1099511627776))] |>.r [(.bin .leq (cT 2) (cI 1099511627776), (vt 8))] |>.m 7 true (decide_eq_true h8); H.e [] h) (fun h8 h => have H := H.m 7 false (decide_eq_false h8); H.e [] h)) (fun h7 h => have H := H.m 6 false (decide_eq_false h7); H.e [] h)) (fun h6 h => have H := H.m 5 false (decide_eq_false h6); H.e [] h)) (fun _ h => iteE h (fun h6 h => have H := H.t 6 [.bool (decide (c.a ≥ 0))] |>.r [(.bin .geq (cT 1) (cI 0), (vt 5))] |>.c (p := (.iaA 10 7 (.c (.ptr 2 0)) (cT 0), (.ptr 2 28))) (fun _ _ _ => fIaP (j := 4) (k := .i64) (n := c.no) (by kernel_rfl) h6 (by decide)); iteE h (fun h7 h => have H := H.t 7 [.bool (decide (c.a < 65536))] |>.r [(.bin .lss (cT 1) (cI 65536), (vt 6))] |>.m 5 true (decide_eq_true h7); iteE h (fun h8 h => have H := H.m 6 true (decide_eq_true h8); H.e [] h) (fun h8 h => have H := H.m 6 false (decide_eq_false h8); H.e [] h)) (fun h7 h => have H := H.m 5 false (decide_eq_false h7); H.e [] h)) (fun _ h => iteE h (fun h7 h => have H := H.t 6 [.bool (decide (c.a ≥ 0))] |>.r [(.bin .geq (cT 1) (cI 0), (vt 5))] |>.c (p := (.iaA 10 7 (.c (.ptr 2 0)) (cT 0), (.ptr 2 35))) (fun _ _ _ => fIaP (j := 5) (k := .i64) (n := c.no) (by kernel_rfl) h7 (by decide)); iteE h (fun h8 h => have H := H.t 7 [.bool (decide (c.a < 65536))] |>.r [(.bin .lss (cT 1) (cI 65536), (vt 6))] |>.m 5 true (decide_eq_true h8); iteE h (fun h9 h => have H := H.m 6 true (decide_eq_true h9); H.e [] h) (fun h9 h => have H := H.m 6 false (decide_eq_false h9); H.e [] h)) (fun h8 h => have H := H.m 5 false (decide_eq_false h8); H.e [] h)) (fun _ h => iteE h (fun h8 h => have H := H.t 6 [.bool (decide (c.a ≥ 0))] |>.r [(.bin .geq (cT 1) (cI 0), (vt 5))] |>.c (p := (.iaA 10 7 (.c (.ptr 2 0)) (cT 0), (.ptr 2 42))) (fun _ _ _ => fIaP (j := 6) (k := .i64) (n := c.no) (by kernel_rfl) h8 (by decide)); iteE h (fun h9 h => have H := H.t 7 [.bool (decide (c.a < 16))] |>.r [(.bin .lss (cT 1) (cI 16), (vt 6))] |>.m 5 true (decide_eq_true h9); iteE h (fun h10 h => have H := H.m 6 true (decide_eq_true h10); H.e [] h) (fun h10 h => have H := H.m 6 false (decide_eq_false h10); H.e [] h)) (fun h9 h => have H := H.m 5 false (decide_eq_false h9); H.e [] h)) (fun _ h => iteE h (fun h9 h => have H := H.t 6 [.bool (decide (c.a ≥ 0))] |>.r [(.bin .geq (cT 1) (cI 0), (vt 5))] |>.c (p := (.iaA 10 7 (.c (.ptr 2 0)) (cT 0), (.ptr 2 49))) (fun _ _ _ => fIaP (j := 7) (k := .i64) (n := c.no) (by kernel_rfl) h9 (by decide)); iteE h (fun h10 h => have H := H.t 7 [.bool (decide (c.a < 16))] |>.r [(.bin .lss (cT 1) (cI 16), (vt 6))] |>.m 5 true (decide_eq_true h10); iteE h (fun h11 h => have H := H.m 6 true (decide_eq_true h11); H.e [] h) (fun h11 h => have H := H.m 6 false (decide_eq_false h11); H.e [] h)) (fun h10 h => have H := H.m 5 false (decide_eq_false h10); H.e [] h)) (fun _ h => iteE h (fun h10 h => have H := H.t 6 [.bool (decide (c.a ≥ 0))] |>.r [(.bin .geq (cT 1) (cI 0), (vt 5))] |>.c (p := (.iaA 10 7 (.c (.ptr 2 0)) (cT 0), (.ptr 2 56))) (fun _ _ _ => fIaP (j := 8) (k := .i64) (n := c.no) (by kernel_rfl) h10 (by decide)); iteE h (fun h11 h => have H := H.t 7 [.bool (decide (c.a < 16))] |>.r [(.bin .lss (cT 1) (cI 16), (vt 6))] |>.m 5 true (decide_eq_true h11); iteE h (fun h12 h => have H := H.m 6 true (decide_eq_true h12); H.e [] h) (fun h12 h => have H := H.m 6 false (decide_eq_false h12); H.e [] h)) (fun h11 h => have H := H.m 5 false (decide_eq_false h11); H.e [] h)) (fun _ h => reqE h (fun h11 h => have H := H.c (p := (.iaA 10 7 (.c (.ptr 2 0)) (cT 0), (.ptr 2 63))) (fun _ _ _ => fIaP (j := 9) (k := .i64) (n := c.no) (by kernel_rfl) h11 (by decide)); H.e [] h)))))))))))))

end Go.Proofs.Hz
open Go Go.Proofs
namespace Go.Proofs.Hz
theorem may_iff (c : Cl) : (mayF c = true) ↔ (¬ ((c.no = 0 ∨ c.no = 3) ∧ (c.b < -1099511627776 ∨ c.b > 1099511627776)) ∧ ((0 ≤ c.no ∧ c.no ≤ 2 ∧ 0 ≤ c.a ∧ c.a ≤ 7) ∨ (3 ≤ c.no ∧ c.no ≤ 5 ∧ 0 ≤ c.a ∧ c.a ≤ 65535) ∨ (6 ≤ c.no ∧ c.no ≤ 8 ∧ 0 ≤ c.a ∧ c.a ≤ 15) ∨ c.no = 9)) := by
  unfold mayF
  (repeat' split) <;> simp only [decide_eq_true_eq, Bool.false_eq_true, false_iff] <;> omega
theorem kd_cases (n : Int) : n = 0 ∨ n = 1 ∨ n = 2 ∨ n = 3 ∨ n = 4 ∨ n = 5 ∨ n = 6 ∨ n = 7 ∨ n = 8 ∨ n = 9 ∨ (n < 0 ∨ 10 ≤ n) := by omega
theorem kd_none {n : Int} (h : n < 0 ∨ 10 ≤ n) : kdOf n = ⟨[], 0, 0, false, 0, 0, 0⟩ := by
  unfold kdOf
  rw [if_neg (by omega), if_neg (by omega), if_neg (by omega), if_neg (by omega), if_neg (by omega), if_neg (by omega), if_neg (by omega), if_neg (by omega), if_neg (by omega), if_neg (by omega)]
theorem qof_eq (c : Cl) : qof c = some (.tup [(ofF c).1.av, .bool (ofF c).2]) := by
  have leaf : ∀ {X : AV} {b : Bool}, (mayF c = true ↔ b = true) → some (AV.tup [X, .bool b]) = some (.tup [X, .bool (mayF c)]) := fun h => by rw [Bool.eq_iff_iff.2 h]
  have e := may_iff c
  have last : c.no < 0 ∨ 10 ≤ c.no → mayF c = false := fun h => by
    cases hh : mayF c with
    | false => rfl
    | true => have := e.1 hh; omega
  rcases kd_cases c.no with h | h | h | h | h | h | h | h | h | h | h
  case inr.inr.inr.inr.inr.inr.inr.inr.inr.inr =>
    have hk := kd_none h
    have hl := last h
    unfold qof ofF
    rw [hk, hl]
    by_cases h0 : c.no < 0
    · rw [if_pos h0]; rfl
    · rw [if_neg h0, if_pos (by omega)]; rfl
  all_goals
    unfold qof
    simp only [ofF, kdOf, Kd.av, h, Int.reduceLT, Int.reduceEq, ge_iff_le, if_true, if_false, Int.reduceLE]
    (repeat' split) <;> refine leaf ?_ <;> rw [e] <;> simp only [decide_eq_true_eq, Bool.false_eq_true, iff_false, iff_true] <;> omega
theorem portF_ok (no : Int) : Spec FF 26 [.int .i64 no] (.bool (portF no)) := qport_ok no (by unfold qport portF; by_cases h : no ≥ 0 <;> simp [h] <;> omega)
theorem nameF_ok (no : Int) : Spec FF 27 [.int .i64 no] (.bool (nameF no)) := qname_ok no (by unfold qname nameF; by_cases h : no ≥ 3 <;> simp [h] <;> omega)
theorem eventF_ok (no : Int) : Spec FF 28 [.int .i64 no] (.bool (eventF no)) := qevent_ok no (by unfold qevent eventF; by_cases h : no ≥ 6 <;> simp [h] <;> omega)
theorem of_ok (c : Cl) {y : Kd × Bool} (h : y = ofF c) : Spec FF 25 [c.av] (.tup [y.1.av, .bool y.2]) := by subst h; exact qof_ok c (qof_eq c)
end Go.Proofs.Hz
