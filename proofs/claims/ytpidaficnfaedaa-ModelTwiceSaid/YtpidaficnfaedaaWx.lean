/-
  Chapter 17: what syscalls mean.
  Conditions: none.
-/
import Derived.Test.YtpidaficnfaedaaN
open Go Go.Proofs
namespace Go.Proofs.Hz
def f23 (no : Int) : Option AV :=
  if no ≥ 0 then
    some (.bool (decide (no ≤ 2)))
  else
    some (.bool false)
def f23W : List AV := [(vt 0)]
def f23V (no : Int) (σ : Nat → Nat) : Val := (valL ([.int .i64 no]) ([]) [] σ 0)
def f23X (no : Int) (_σ : Nat → Nat) : List AV := [(.int .i64 no)]
def f23Y (_no : Int) (_σ : Nat → Nat) : List Blk := []
theorem f23E (no : Int) (σ : Nat → Nat) : f23W.map (gm (f23V no σ)) = f23X no σ := by kernel_rfl
theorem f23G (no : Int) (σ : Nat → Nat) : ([] : List Blk).map (gB (f23V no σ)) = f23Y no σ := by kernel_rfl
theorem f23_ok (no : Int) {r0 : AV} (h : f23 no = some r0) : Spec FF 23 [(.int .i64 no)] r0 := by
  unfold f23 at h
  have hσ : ∀ i j : Nat, (fun i : Nat => i) i = (fun i : Nat => i) j → i = j := fun _ _ e => e
  exact spec_begin (ρ := f23V no (fun i => i)) (xs := f23W) (by kernel_rfl) rfl rfl (by kernel_rfl) (fun z0 S => have H := Tok.start hσ S 0 1 0 0 ([.int .i64 no]) ([]) [] (.n) .n (f23E no _) (f23G no _); have H := H.t 2 [.bool (decide (no ≥ 0))] |>.r [(.bin .geq (cT 0) (cI 0), (vt 1))]; iteE h (fun h0 h => have H := H.t 3 [.bool (decide (no ≤ 2))] |>.r [(.bin .leq (cT 0) (cI 2), (vt 2))] |>.m 1 true (decide_eq_true h0); H.e [] h) (fun h0 h => have H := H.m 1 false (decide_eq_false h0); H.e [] h))

def f24 (no : Int) : Option AV :=
  if no ≥ 3 then
    some (.bool (decide (no ≤ 5)))
  else
    some (.bool false)
def f24W : List AV := [(vt 0)]
def f24V (no : Int) (σ : Nat → Nat) : Val := (valL ([.int .i64 no]) ([]) [] σ 0)
def f24X (no : Int) (_σ : Nat → Nat) : List AV := [(.int .i64 no)]
def f24Y (_no : Int) (_σ : Nat → Nat) : List Blk := []
theorem f24E (no : Int) (σ : Nat → Nat) : f24W.map (gm (f24V no σ)) = f24X no σ := by kernel_rfl
theorem f24G (no : Int) (σ : Nat → Nat) : ([] : List Blk).map (gB (f24V no σ)) = f24Y no σ := by kernel_rfl
theorem f24_ok (no : Int) {r0 : AV} (h : f24 no = some r0) : Spec FF 24 [(.int .i64 no)] r0 := by
  unfold f24 at h
  have hσ : ∀ i j : Nat, (fun i : Nat => i) i = (fun i : Nat => i) j → i = j := fun _ _ e => e
  exact spec_begin (ρ := f24V no (fun i => i)) (xs := f24W) (by kernel_rfl) rfl rfl (by kernel_rfl) (fun z0 S => have H := Tok.start hσ S 0 1 0 0 ([.int .i64 no]) ([]) [] (.n) .n (f24E no _) (f24G no _); have H := H.t 2 [.bool (decide (no ≥ 3))] |>.r [(.bin .geq (cT 0) (cI 3), (vt 1))]; iteE h (fun h0 h => have H := H.t 3 [.bool (decide (no ≤ 5))] |>.r [(.bin .leq (cT 0) (cI 5), (vt 2))] |>.m 1 true (decide_eq_true h0); H.e [] h) (fun h0 h => have H := H.m 1 false (decide_eq_false h0); H.e [] h))

def f25 (no : Int) : Option AV :=
  if no ≥ 6 then
    some (.bool (decide (no ≤ 8)))
  else
    some (.bool false)
def f25W : List AV := [(vt 0)]
def f25V (no : Int) (σ : Nat → Nat) : Val := (valL ([.int .i64 no]) ([]) [] σ 0)
def f25X (no : Int) (_σ : Nat → Nat) : List AV := [(.int .i64 no)]
def f25Y (_no : Int) (_σ : Nat → Nat) : List Blk := []
theorem f25E (no : Int) (σ : Nat → Nat) : f25W.map (gm (f25V no σ)) = f25X no σ := by kernel_rfl
theorem f25G (no : Int) (σ : Nat → Nat) : ([] : List Blk).map (gB (f25V no σ)) = f25Y no σ := by kernel_rfl
theorem f25_ok (no : Int) {r0 : AV} (h : f25 no = some r0) : Spec FF 25 [(.int .i64 no)] r0 := by
  unfold f25 at h
  have hσ : ∀ i j : Nat, (fun i : Nat => i) i = (fun i : Nat => i) j → i = j := fun _ _ e => e
  exact spec_begin (ρ := f25V no (fun i => i)) (xs := f25W) (by kernel_rfl) rfl rfl (by kernel_rfl) (fun z0 S => have H := Tok.start hσ S 0 1 0 0 ([.int .i64 no]) ([]) [] (.n) .n (f25E no _) (f25G no _); have H := H.t 2 [.bool (decide (no ≥ 6))] |>.r [(.bin .geq (cT 0) (cI 6), (vt 1))]; iteE h (fun h0 h => have H := H.t 3 [.bool (decide (no ≤ 8))] |>.r [(.bin .leq (cT 0) (cI 8), (vt 2))] |>.m 1 true (decide_eq_true h0); H.e [] h) (fun h0 h => have H := H.m 1 false (decide_eq_false h0); H.e [] h))

def f20 (c : Cl) : Option AV :=
  if c.no ≤ 2 then
    some (.int .i64 0)
  else
    if c.no ≤ 5 then
      some (.int .i64 1)
    else
      if c.no ≤ 8 then
        some (.int .i64 2)
      else
        some (.int .i64 3)
def f20W : List AV := [(.agg [(vt 0), (vt 1), (vt 2)])]
def f20V (c : Cl) (σ : Nat → Nat) : Val := (valL ([.int .i64 c.no, .int .i64 c.a, .int .i64 c.b]) ([]) [] σ 0)
def f20X (c : Cl) (_σ : Nat → Nat) : List AV := [(.agg [(.int .i64 c.no), (.int .i64 c.a), (.int .i64 c.b)])]
def f20Y (_c : Cl) (_σ : Nat → Nat) : List Blk := []
theorem f20E (c : Cl) (σ : Nat → Nat) : f20W.map (gm (f20V c σ)) = f20X c σ := by kernel_rfl
theorem f20G (c : Cl) (σ : Nat → Nat) : ([] : List Blk).map (gB (f20V c σ)) = f20Y c σ := by kernel_rfl
theorem f20_ok (c : Cl) {r0 : AV} (h : f20 c = some r0) : Spec FF 20 [(.agg [(.int .i64 c.no), (.int .i64 c.a), (.int .i64 c.b)])] r0 := by
  unfold f20 at h
  have hσ : ∀ i j : Nat, (fun i : Nat => i) i = (fun i : Nat => i) j → i = j := fun _ _ e => e
  exact spec_begin (ρ := f20V c (fun i => i)) (xs := f20W) (by kernel_rfl) rfl rfl (by kernel_rfl) (fun z0 S => have H := Tok.start hσ S 0 3 0 0 ([.int .i64 c.no, .int .i64 c.a, .int .i64 c.b]) ([]) [] (.n) .n (f20E c _) (f20G c _); have H := H.t 4 [.bool (decide (c.no ≤ 2))] |>.r [(.bin .leq (cT 0) (cI 2), (vt 3))]; iteE h (fun h0 h => have H := H.m 3 true (decide_eq_true h0); H.e [] h) (fun h0 h => have H := H.t 5 [.bool (decide (c.no ≤ 5))] |>.r [(.bin .leq (cT 0) (cI 5), (vt 4))] |>.m 3 false (decide_eq_false h0); iteE h (fun h1 h => have H := H.m 4 true (decide_eq_true h1); H.e [] h) (fun h1 h => have H := H.t 6 [.bool (decide (c.no ≤ 8))] |>.r [(.bin .leq (cT 0) (cI 8), (vt 5))] |>.m 4 false (decide_eq_false h1); iteE h (fun h2 h => have H := H.m 5 true (decide_eq_true h2); H.e [] h) (fun h2 h => have H := H.m 5 false (decide_eq_false h2); H.e [] h))))

def f43 (c : Cl) : Option AV :=
  if c.no < 0 then
    some (.tup [(.agg [(.str []), (.int .i64 0), (.int .i64 0), (.bool false), (.int .i64 0), (.int .i64 0), (.int .i64 0)]), (.bool false)])
  else
    if c.no ≥ 10 then
      some (.tup [(.agg [(.str []), (.int .i64 0), (.int .i64 0), (.bool false), (.int .i64 0), (.int .i64 0), (.int .i64 0)]), (.bool false)])
    else
      if c.no = 0 then
        if c.a ≥ 0 then
          if c.a < 8 then
            if c.b ≥ (-1099511627776) then
              some (.tup [(.agg [(.str [115, 101, 110, 100]), (.int .i64 28), (.int .i64 8), (.bool true), (.int .i64 1), (.int .i64 0), (.int .i64 0)]), (.bool (decide (c.b ≤ 1099511627776)))])
            else
              some (.tup [(.agg [(.str [115, 101, 110, 100]), (.int .i64 28), (.int .i64 8), (.bool true), (.int .i64 1), (.int .i64 0), (.int .i64 0)]), (.bool false)])
          else
            some (.tup [(.agg [(.str [115, 101, 110, 100]), (.int .i64 28), (.int .i64 8), (.bool true), (.int .i64 1), (.int .i64 0), (.int .i64 0)]), (.bool false)])
        else
          some (.tup [(.agg [(.str [115, 101, 110, 100]), (.int .i64 28), (.int .i64 8), (.bool true), (.int .i64 1), (.int .i64 0), (.int .i64 0)]), (.bool false)])
      else
        if c.no = 1 then
          if c.a ≥ 0 then
            if c.a < 8 then
              some (.tup [(.agg [(.str [114, 101, 99, 118]), (.int .i64 29), (.int .i64 8), (.bool false), (.int .i64 2), (.int .i64 0), (.int .i64 0)]), (.bool true)])
            else
              some (.tup [(.agg [(.str [114, 101, 99, 118]), (.int .i64 29), (.int .i64 8), (.bool false), (.int .i64 2), (.int .i64 0), (.int .i64 0)]), (.bool false)])
          else
            some (.tup [(.agg [(.str [114, 101, 99, 118]), (.int .i64 29), (.int .i64 8), (.bool false), (.int .i64 2), (.int .i64 0), (.int .i64 0)]), (.bool false)])
        else
          if c.no = 2 then
            if c.a ≥ 0 then
              if c.a < 8 then
                some (.tup [(.agg [(.str [116, 114, 121]), (.int .i64 10), (.int .i64 8), (.bool false), (.int .i64 2), (.int .i64 3), (.int .i64 0)]), (.bool true)])
              else
                some (.tup [(.agg [(.str [116, 114, 121]), (.int .i64 10), (.int .i64 8), (.bool false), (.int .i64 2), (.int .i64 3), (.int .i64 0)]), (.bool false)])
            else
              some (.tup [(.agg [(.str [116, 114, 121]), (.int .i64 10), (.int .i64 8), (.bool false), (.int .i64 2), (.int .i64 3), (.int .i64 0)]), (.bool false)])
          else
            if c.no = 3 then
              if c.a ≥ 0 then
                if c.a < 65536 then
                  if c.b ≥ (-1099511627776) then
                    some (.tup [(.agg [(.str [112, 117, 116]), (.int .i64 16), (.int .i64 65536), (.bool true), (.int .i64 4), (.int .i64 0), (.int .i64 5)]), (.bool (decide (c.b ≤ 1099511627776)))])
                  else
                    some (.tup [(.agg [(.str [112, 117, 116]), (.int .i64 16), (.int .i64 65536), (.bool true), (.int .i64 4), (.int .i64 0), (.int .i64 5)]), (.bool false)])
                else
                  some (.tup [(.agg [(.str [112, 117, 116]), (.int .i64 16), (.int .i64 65536), (.bool true), (.int .i64 4), (.int .i64 0), (.int .i64 5)]), (.bool false)])
              else
                some (.tup [(.agg [(.str [112, 117, 116]), (.int .i64 16), (.int .i64 65536), (.bool true), (.int .i64 4), (.int .i64 0), (.int .i64 5)]), (.bool false)])
            else
              if c.no = 4 then
                if c.a ≥ 0 then
                  if c.a < 65536 then
                    some (.tup [(.agg [(.str [108, 111, 111, 107]), (.int .i64 17), (.int .i64 65536), (.bool false), (.int .i64 8), (.int .i64 7), (.int .i64 0)]), (.bool true)])
                  else
                    some (.tup [(.agg [(.str [108, 111, 111, 107]), (.int .i64 17), (.int .i64 65536), (.bool false), (.int .i64 8), (.int .i64 7), (.int .i64 0)]), (.bool false)])
                else
                  some (.tup [(.agg [(.str [108, 111, 111, 107]), (.int .i64 17), (.int .i64 65536), (.bool false), (.int .i64 8), (.int .i64 7), (.int .i64 0)]), (.bool false)])
              else
                if c.no = 5 then
                  if c.a ≥ 0 then
                    if c.a < 65536 then
                      some (.tup [(.agg [(.str [99, 117, 116]), (.int .i64 18), (.int .i64 65536), (.bool false), (.int .i64 6), (.int .i64 7), (.int .i64 0)]), (.bool true)])
                    else
                      some (.tup [(.agg [(.str [99, 117, 116]), (.int .i64 18), (.int .i64 65536), (.bool false), (.int .i64 6), (.int .i64 7), (.int .i64 0)]), (.bool false)])
                  else
                    some (.tup [(.agg [(.str [99, 117, 116]), (.int .i64 18), (.int .i64 65536), (.bool false), (.int .i64 6), (.int .i64 7), (.int .i64 0)]), (.bool false)])
                else
                  if c.no = 6 then
                    if c.a ≥ 0 then
                      if c.a < 16 then
                        some (.tup [(.agg [(.str [115, 101, 116]), (.int .i64 19), (.int .i64 16), (.bool false), (.int .i64 10), (.int .i64 0), (.int .i64 0)]), (.bool true)])
                      else
                        some (.tup [(.agg [(.str [115, 101, 116]), (.int .i64 19), (.int .i64 16), (.bool false), (.int .i64 10), (.int .i64 0), (.int .i64 0)]), (.bool false)])
                    else
                      some (.tup [(.agg [(.str [115, 101, 116]), (.int .i64 19), (.int .i64 16), (.bool false), (.int .i64 10), (.int .i64 0), (.int .i64 0)]), (.bool false)])
                  else
                    if c.no = 7 then
                      if c.a ≥ 0 then
                        if c.a < 16 then
                          some (.tup [(.agg [(.str [114, 101, 115, 101, 116]), (.int .i64 20), (.int .i64 16), (.bool false), (.int .i64 11), (.int .i64 0), (.int .i64 0)]), (.bool true)])
                        else
                          some (.tup [(.agg [(.str [114, 101, 115, 101, 116]), (.int .i64 20), (.int .i64 16), (.bool false), (.int .i64 11), (.int .i64 0), (.int .i64 0)]), (.bool false)])
                      else
                        some (.tup [(.agg [(.str [114, 101, 115, 101, 116]), (.int .i64 20), (.int .i64 16), (.bool false), (.int .i64 11), (.int .i64 0), (.int .i64 0)]), (.bool false)])
                    else
                      if c.no = 8 then
                        if c.a ≥ 0 then
                          if c.a < 16 then
                            some (.tup [(.agg [(.str [116, 101, 115, 116]), (.int .i64 21), (.int .i64 16), (.bool false), (.int .i64 12), (.int .i64 0), (.int .i64 0)]), (.bool true)])
                          else
                            some (.tup [(.agg [(.str [116, 101, 115, 116]), (.int .i64 21), (.int .i64 16), (.bool false), (.int .i64 12), (.int .i64 0), (.int .i64 0)]), (.bool false)])
                        else
                          some (.tup [(.agg [(.str [116, 101, 115, 116]), (.int .i64 21), (.int .i64 16), (.bool false), (.int .i64 12), (.int .i64 0), (.int .i64 0)]), (.bool false)])
                      else
                        if c.no = 9 then some (.tup [(.agg [(.str [121, 105, 101, 108, 100]), (.int .i64 27), (.int .i64 0), (.bool false), (.int .i64 0), (.int .i64 0), (.int .i64 0)]), (.bool true)]) else none
def f43W : List AV := [(.agg [(vt 0), (vt 1), (vt 2)])]
def f43V (c : Cl) (σ : Nat → Nat) : Val := (valL ([.int .i64 c.no, .int .i64 c.a, .int .i64 c.b]) ([]) [] σ 0)
def f43X (c : Cl) (_σ : Nat → Nat) : List AV := [(.agg [(.int .i64 c.no), (.int .i64 c.a), (.int .i64 c.b)])]
def f43Y (_c : Cl) (_σ : Nat → Nat) : List Blk := []
theorem f43E (c : Cl) (σ : Nat → Nat) : f43W.map (gm (f43V c σ)) = f43X c σ := by kernel_rfl
theorem f43G (c : Cl) (σ : Nat → Nat) : ([] : List Blk).map (gB (f43V c σ)) = f43Y c σ := by kernel_rfl
set_option maxHeartbeats 10000000 in
theorem f43_ok (c : Cl) {r0 : AV} (h : f43 c = some r0) : Spec FF 43 [(.agg [(.int .i64 c.no), (.int .i64 c.a), (.int .i64 c.b)])] r0 := by
  unfold f43 at h
  have hσ : ∀ i j : Nat, (fun i : Nat => i) i = (fun i : Nat => i) j → i = j := fun _ _ e => e
  exact spec_begin (ρ := f43V c (fun i => i)) (xs := f43W) (by kernel_rfl) rfl rfl (by kernel_rfl) (fun z0 S => have H := Tok.start hσ S 0 3 0 0 ([.int .i64 c.no, .int .i64 c.a, .int .i64 c.b]) ([]) [] (.n) .n (f43E c _) (f43G c _); have H := H.t 4 [.bool (decide (c.no < 0))] |>.r [(.bin .lss (cT 0) (cI 0), (vt 3))] |>.s [] kindsA kinds_ok; iteE h (fun h0 h => have H := H.m 3 true (decide_eq_true h0); H.e [] h) (fun h0 h => have H := H.t 5 [.bool (decide (c.no ≥ 10))] |>.r [(.bin .geq (cT 0) (cI 10), (vt 4))] |>.m 3 false (decide_eq_false h0); iteE h (fun h1 h => have H := H.m 4 true (decide_eq_true h1); H.e [] h) (fun h1 h => have H := H.m 4 false (decide_eq_false h1); iteE h (fun h2 h => have H := H.t 6 [.bool (decide (c.a ≥ 0))] |>.r [(.bin .geq (cT 1) (cI 0), (vt 5))] |>.c (p := (.iaA 10 7 (.c (.ptr 2 0)) (cT 0), (.ptr 2 0))) (fun _ _ _ => fIaP (j := 0) (k := .i64) (n := c.no) (by kernel_rfl) h2 (by decide)); iteE h (fun h3 h => have H := H.t 7 [.bool (decide (c.a < 8))] |>.r [(.bin .lss (cT 1) (cI 8), (vt 6))] |>.m 5 true (decide_eq_true h3); iteE h (fun h4 h => have H := H.t 8 [.bool (decide (c.b ≥ (-1099511627776)))] |>.r [(.bin .geq (cT 2) (cI (-1099511627776)), (vt 7))] |>.m 6 true (decide_eq_true h4); iteE h (fun h5 h => have H := H.t 9 [.bool (decide (c.b ≤ 1099511627776))] |>.r [(.bin .leq (cT 2) (cI 1099511627776), (vt 8))] |>.m 7 true (decide_eq_true h5); H.e [] h) (fun h5 h => have H := H.m 7 false (decide_eq_false h5); H.e [] h)) (fun h4 h => have H := H.m 6 false (decide_eq_false h4); H.e [] h)) (fun h3 h => have H := H.m 5 false (decide_eq_false h3); H.e [] h)) (fun _ h => iteE h (fun h3 h => have H := H.t 6 [.bool (decide (c.a ≥ 0))] |>.r [(.bin .geq (cT 1) (cI 0), (vt 5))] |>.c (p := (.iaA 10 7 (.c (.ptr 2 0)) (cT 0), (.ptr 2 7))) (fun _ _ _ => fIaP (j := 1) (k := .i64) (n := c.no) (by kernel_rfl) h3 (by decide)); iteE h (fun h4 h => have H := H.t 7 [.bool (decide (c.a < 8))] |>.r [(.bin .lss (cT 1) (cI 8), (vt 6))] |>.m 5 true (decide_eq_true h4); iteE h (fun h5 h => have H := H.m 6 true (decide_eq_true h5); H.e [] h) (fun h5 h => have H := H.m 6 false (decide_eq_false h5); H.e [] h)) (fun h4 h => have H := H.m 5 false (decide_eq_false h4); H.e [] h)) (fun _ h => iteE h (fun h4 h => have H := H.t 6 [.bool (decide (c.a ≥ 0))] |>.r [(.bin .geq (cT 1) (cI 0), (vt 5))] |>.c (p := (.iaA 10 7 (.c (.ptr 2 0)) (cT 0), (.ptr 2 14))) (fun _ _ _ => fIaP (j := 2) (k := .i64) (n := c.no) (by kernel_rfl) h4 (by decide)); iteE h (fun h5 h => have H := H.t 7 [.bool (decide (c.a < 8))] |>.r [(.bin .lss (cT 1) (cI 8), (vt 6))] |>.m 5 true (decide_eq_true h5); iteE h (fun h6 h => have H := H.m 6 true (decide_eq_true h6); H.e [] h) (fun h6 h => have H := H.m 6 false (decide_eq_false h6); H.e [] h)) (fun h5 h => have H := H.m 5 false (decide_eq_false h5); H.e [] h)) (fun _ h => iteE h (fun h5 h => have H := H.t 6 [.bool (decide (c.a ≥ 0))] |>.r [(.bin .geq (cT 1) (cI 0), (vt 5))] |>.c (p := (.iaA 10 7 (.c (.ptr 2 0)) (cT 0), (.ptr 2 21))) (fun _ _ _ => fIaP (j := 3) (k := .i64) (n := c.no) (by kernel_rfl) h5 (by decide)); iteE h (fun h6 h => have H := H.t 7 [.bool (decide (c.a < 65536))] |>.r [(.bin .lss (cT 1) (cI 65536), (vt 6))] |>.m 5 true (decide_eq_true h6); iteE h (fun h7 h => have H := H.t 8 [.bool (decide (c.b ≥ (-1099511627776)))] |>.r [(.bin .geq (cT 2) (cI (-1099511627776)), (vt 7))] |>.m 6 true (decide_eq_true h7); iteE h (fun h8 h => have H := H.t 9 [.bool (decide (c.b ≤ 1099511627776))] |>.r [(.bin .leq (cT 2) (cI 1099511627776), (vt 8))] |>.m 7 true (decide_eq_true h8); H.e [] h) (fun h8 h => have H := H.m 7 false (decide_eq_false h8); H.e [] h)) (fun h7 h => have H := H.m 6 false (decide_eq_false h7); H.e [] h)) (fun h6 h => have H := H.m 5 false (decide_eq_false h6); H.e [] h)) (fun _ h => iteE h (fun h6 h => have H := H.t 6 [.bool (decide (c.a ≥ 0))] |>.r [(.bin .geq (cT 1) (cI 0), (vt 5))] |>.c (p := (.iaA 10 7 (.c (.ptr 2 0)) (cT 0), (.ptr 2 28))) (fun _ _ _ => fIaP (j := 4) (k := .i64) (n := c.no) (by kernel_rfl) h6 (by decide)); iteE h (fun h7 h => have H := H.t 7 [.bool (decide (c.a < 65536))] |>.r [(.bin .lss (cT 1) (cI 65536), (vt 6))] |>.m 5 true (decide_eq_true h7); iteE h (fun h8 h => have H := H.m 6 true (decide_eq_true h8); H.e [] h) (fun h8 h => have H := H.m 6 false (decide_eq_false h8); H.e [] h)) (fun h7 h => have H := H.m 5 false (decide_eq_false h7); H.e [] h)) (fun _ h => iteE h (fun h7 h => have H := H.t 6 [.bool (decide (c.a ≥ 0))] |>.r [(.bin .geq (cT 1) (cI 0), (vt 5))] |>.c (p := (.iaA 10 7 (.c (.ptr 2 0)) (cT 0), (.ptr 2 35))) (fun _ _ _ => fIaP (j := 5) (k := .i64) (n := c.no) (by kernel_rfl) h7 (by decide)); iteE h (fun h8 h => have H := H.t 7 [.bool (decide (c.a < 65536))] |>.r [(.bin .lss (cT 1) (cI 65536), (vt 6))] |>.m 5 true (decide_eq_true h8); iteE h (fun h9 h => have H := H.m 6 true (decide_eq_true h9); H.e [] h) (fun h9 h => have H := H.m 6 false (decide_eq_false h9); H.e [] h)) (fun h8 h => have H := H.m 5 false (decide_eq_false h8); H.e [] h)) (fun _ h => iteE h (fun h8 h => have H := H.t 6 [.bool (decide (c.a ≥ 0))] |>.r [(.bin .geq (cT 1) (cI 0), (vt 5))] |>.c (p := (.iaA 10 7 (.c (.ptr 2 0)) (cT 0), (.ptr 2 42))) (fun _ _ _ => fIaP (j := 6) (k := .i64) (n := c.no) (by kernel_rfl) h8 (by decide)); iteE h (fun h9 h => have H := H.t 7 [.bool (decide (c.a < 16))] |>.r [(.bin .lss (cT 1) (cI 16), (vt 6))] |>.m 5 true (decide_eq_true h9); iteE h (fun h10 h => have H := H.m 6 true (decide_eq_true h10); H.e [] h) (fun h10 h => have H := H.m 6 false (decide_eq_false h10); H.e [] h)) (fun h9 h => have H := H.m 5 false (decide_eq_false h9); H.e [] h)) (fun _ h => iteE h (fun h9 h => have H := H.t 6 [.bool (decide (c.a ≥ 0))] |>.r [(.bin .geq (cT 1) (cI 0), (vt 5))] |>.c (p := (.iaA 10 7 (.c (.ptr 2 0)) (cT 0), (.ptr 2 49))) (fun _ _ _ => fIaP (j := 7) (k := .i64) (n := c.no) (by kernel_rfl) h9 (by decide)); iteE h (fun h10 h => have H := H.t 7 [.bool (decide (c.a < 16))] |>.r [(.bin .lss (cT 1) (cI 16), (vt 6))] |>.m 5 true (decide_eq_true h10); iteE h (fun h11 h => have H := H.m 6 true (decide_eq_true h11); H.e [] h) (fun h11 h => have H := H.m 6 false (decide_eq_false h11); H.e [] h)) (fun h10 h => have H := H.m 5 false (decide_eq_false h10); H.e [] h)) (fun _ h => iteE h (fun h10 h => have H := H.t 6 [.bool (decide (c.a ≥ 0))] |>.r [(.bin .geq (cT 1) (cI 0), (vt 5))] |>.c (p := (.iaA 10 7 (.c (.ptr 2 0)) (cT 0), (.ptr 2 56))) (fun _ _ _ => fIaP (j := 8) (k := .i64) (n := c.no) (by kernel_rfl) h10 (by decide)); iteE h (fun h11 h => have H := H.t 7 [.bool (decide (c.a < 16))] |>.r [(.bin .lss (cT 1) (cI 16), (vt 6))] |>.m 5 true (decide_eq_true h11); iteE h (fun h12 h => have H := H.m 6 true (decide_eq_true h12); H.e [] h) (fun h12 h => have H := H.m 6 false (decide_eq_false h12); H.e [] h)) (fun h11 h => have H := H.m 5 false (decide_eq_false h11); H.e [] h)) (fun _ h => reqE h (fun h11 h => have H := H.c (p := (.iaA 10 7 (.c (.ptr 2 0)) (cT 0), (.ptr 2 63))) (fun _ _ _ => fIaP (j := 9) (k := .i64) (n := c.no) (by kernel_rfl) h11 (by decide)); H.e [] h)))))))))))))

end Go.Proofs.Hz
open Go Go.Proofs
namespace Go.Proofs.Hz
theorem may_iff (c : Cl) : (mayF c = true) ↔ (¬ ((c.no = 0 ∨ c.no = 3) ∧ (c.b < -1099511627776 ∨ c.b > 1099511627776)) ∧ ((0 ≤ c.no ∧ c.no ≤ 2 ∧ 0 ≤ c.a ∧ c.a ≤ 7) ∨ (3 ≤ c.no ∧ c.no ≤ 5 ∧ 0 ≤ c.a ∧ c.a ≤ 65535) ∨ (6 ≤ c.no ∧ c.no ≤ 8 ∧ 0 ≤ c.a ∧ c.a ≤ 15) ∨ c.no = 9)) := by
  unfold mayF
  (repeat' split) <;> simp only [decide_eq_true_eq, Bool.false_eq_true, false_iff] <;> omega
theorem kd_cases (n : Int) : n = 0 ∨ n = 1 ∨ n = 2 ∨ n = 3 ∨ n = 4 ∨ n = 5 ∨ n = 6 ∨ n = 7 ∨ n = 8 ∨ n = 9 ∨ (n < 0 ∨ 10 ≤ n) := by omega
theorem kd_none {n : Int} (h : n < 0 ∨ 10 ≤ n) : kdOf n = ⟨[], 0, 0, false, 0, 0, 0⟩ := by
  unfold kdOf
  rw [if_neg (by omega), if_neg (by omega), if_neg (by omega), if_neg (by omega), if_neg (by omega), if_neg (by omega), if_neg (by omega), if_neg (by omega), if_neg (by omega), if_neg (by omega)]
theorem f43_eq (c : Cl) : f43 c = some (.tup [(ofF c).1.av, .bool (ofF c).2]) := by
  have leaf : ∀ {X : AV} {b : Bool}, (mayF c = true ↔ b = true) → some (AV.tup [X, .bool b]) = some (.tup [X, .bool (mayF c)]) := fun h => by rw [Bool.eq_iff_iff.2 h]
  have e := may_iff c
  have last : c.no < 0 ∨ 10 ≤ c.no → mayF c = false := fun h => by
    cases hh : mayF c with
    | false => rfl
    | true => have := e.1 hh; omega
  rcases kd_cases c.no with h | h | h | h | h | h | h | h | h | h | h
  case inr.inr.inr.inr.inr.inr.inr.inr.inr.inr =>
    have hk := kd_none h
    have hl := last h
    unfold f43 ofF
    rw [hk, hl]
    by_cases h0 : c.no < 0
    · rw [if_pos h0]; rfl
    · rw [if_neg h0, if_pos (by omega)]; rfl
  all_goals
    unfold f43
    simp only [ofF, kdOf, Kd.av, h, Int.reduceLT, Int.reduceGE, Int.reduceEq, ge_iff_le, if_true, if_false, reduceCtorEq, Int.reduceLE]
    (repeat' split) <;> refine leaf ?_ <;> rw [e] <;> simp only [decide_eq_true_eq, Bool.false_eq_true, iff_false, iff_true] <;> omega
theorem portF_ok (no : Int) : Spec FF 23 [.int .i64 no] (.bool (portF no)) := f23_ok no (by unfold f23 portF; by_cases h : no ≥ 0 <;> simp [h] <;> omega)
theorem nameF_ok (no : Int) : Spec FF 24 [.int .i64 no] (.bool (nameF no)) := f24_ok no (by unfold f24 nameF; by_cases h : no ≥ 3 <;> simp [h] <;> omega)
theorem eventF_ok (no : Int) : Spec FF 25 [.int .i64 no] (.bool (eventF no)) := f25_ok no (by unfold f25 eventF; by_cases h : no ≥ 6 <;> simp [h] <;> omega)
theorem groupF_ok (c : Cl) : Spec FF 20 [c.av] (.int .i64 (groupF c)) := f20_ok c (by unfold f20 groupF; split <;> (try split) <;> (try split) <;> simp)
theorem of_ok (c : Cl) {y : Kd × Bool} (h : y = ofF c) : Spec FF 43 [c.av] (.tup [y.1.av, .bool y.2]) := by subst h; exact f43_ok c (f43_eq c)
end Go.Proofs.Hz
open Go Go.Proofs
namespace Go.Proofs.Hz
def f12 (c : Cl) : Option AV :=
  if c.no = 0 then
    if c.b < (-1099511627776) then
      some (.bool false)
    else
      if c.b > 1099511627776 then
        some (.bool false)
      else
        if (portF c.no) = true then
          if c.a ≥ 0 then
            some (.bool (decide (c.a ≤ 7)))
          else
            some (.bool false)
        else
          if (nameF c.no) = true then
            if c.a ≥ 0 then
              some (.bool (decide (c.a ≤ 65535)))
            else
              some (.bool false)
          else
            if (eventF c.no) = true then
              if c.a ≥ 0 then
                some (.bool (decide (c.a ≤ 15)))
              else
                some (.bool false)
            else
              some (.bool (decide (c.no = 9)))
  else
    if c.no = 3 then
      if c.b < (-1099511627776) then
        some (.bool false)
      else
        if c.b > 1099511627776 then
          some (.bool false)
        else
          if (portF c.no) = true then
            if c.a ≥ 0 then
              some (.bool (decide (c.a ≤ 7)))
            else
              some (.bool false)
          else
            if (nameF c.no) = true then
              if c.a ≥ 0 then
                some (.bool (decide (c.a ≤ 65535)))
              else
                some (.bool false)
            else
              if (eventF c.no) = true then
                if c.a ≥ 0 then
                  some (.bool (decide (c.a ≤ 15)))
                else
                  some (.bool false)
              else
                some (.bool (decide (c.no = 9)))
    else
      if (portF c.no) = true then
        if c.a ≥ 0 then
          some (.bool (decide (c.a ≤ 7)))
        else
          some (.bool false)
      else
        if (nameF c.no) = true then
          if c.a ≥ 0 then
            some (.bool (decide (c.a ≤ 65535)))
          else
            some (.bool false)
        else
          if (eventF c.no) = true then
            if c.a ≥ 0 then
              some (.bool (decide (c.a ≤ 15)))
            else
              some (.bool false)
          else
            some (.bool (decide (c.no = 9)))
def f12W : List AV := [(.agg [(vt 0), (vt 1), (vt 2)])]
def f12V (c : Cl) (σ : Nat → Nat) : Val := (valL ([.int .i64 c.no, .int .i64 c.a, .int .i64 c.b]) ([]) [] σ 0)
def f12X (c : Cl) (_σ : Nat → Nat) : List AV := [(.agg [(.int .i64 c.no), (.int .i64 c.a), (.int .i64 c.b)])]
def f12Y (_c : Cl) (_σ : Nat → Nat) : List Blk := []
theorem f12E (c : Cl) (σ : Nat → Nat) : f12W.map (gm (f12V c σ)) = f12X c σ := by kernel_rfl
theorem f12G (c : Cl) (σ : Nat → Nat) : ([] : List Blk).map (gB (f12V c σ)) = f12Y c σ := by kernel_rfl
set_option maxHeartbeats 10000000 in
theorem f12_ok (c : Cl) {r0 : AV} (h : f12 c = some r0) : Spec FF 12 [(.agg [(.int .i64 c.no), (.int .i64 c.a), (.int .i64 c.b)])] r0 := by
  unfold f12 at h
  have hσ : ∀ i j : Nat, (fun i : Nat => i) i = (fun i : Nat => i) j → i = j := fun _ _ e => e
  exact spec_begin (ρ := f12V c (fun i => i)) (xs := f12W) (by kernel_rfl) rfl rfl (by kernel_rfl) (fun z0 S => have H := Tok.start hσ S 0 3 0 0 ([.int .i64 c.no, .int .i64 c.a, .int .i64 c.b]) ([]) [] (.n) .n (f12E c _) (f12G c _); have H := H.t 4 [.bool (decide (c.no = 0))] |>.r [(.bin .eql (cT 0) (cI 0), (vt 3))]; iteE h (fun h0 h => have H := H.t 5 [.bool (decide (c.b < (-1099511627776)))] |>.r [(.bin .lss (cT 2) (cI (-1099511627776)), (vt 4))] |>.m 3 true (decide_eq_true h0); iteE h (fun h1 h => have H := H.m 4 true (decide_eq_true h1); H.e [] h) (fun h1 h => have H := H.t 6 [.bool (decide (c.b > 1099511627776))] |>.r [(.bin .gtr (cT 2) (cI 1099511627776), (vt 5))] |>.m 4 false (decide_eq_false h1); iteE h (fun h2 h => have H := H.m 5 true (decide_eq_true h2); H.e [] h) (fun h2 h => have H := H.t 7 [.bool (portF c.no)] |>.m 5 false (decide_eq_false h2) |>.s [(vt 0)] (vt 6) (portF_ok c.no); iteE h (fun h3 h => have H := H.t 8 [.bool (decide (c.a ≥ 0))] |>.r [(.bin .geq (cT 1) (cI 0), (vt 7))] |>.m 6 true h3; iteE h (fun h4 h => have H := H.t 9 [.bool (decide (c.a ≤ 7))] |>.r [(.bin .leq (cT 1) (cI 7), (vt 8))] |>.m 7 true (decide_eq_true h4); H.e [] h) (fun h4 h => have H := H.m 7 false (decide_eq_false h4); H.e [] h)) (fun h3 h => have H := H.t 8 [.bool (nameF c.no)] |>.m 6 false (bF h3) |>.s [(vt 0)] (vt 7) (nameF_ok c.no); iteE h (fun h4 h => have H := H.t 9 [.bool (decide (c.a ≥ 0))] |>.r [(.bin .geq (cT 1) (cI 0), (vt 8))] |>.m 7 true h4; iteE h (fun h5 h => have H := H.t 10 [.bool (decide (c.a ≤ 65535))] |>.r [(.bin .leq (cT 1) (cI 65535), (vt 9))] |>.m 8 true (decide_eq_true h5); H.e [] h) (fun h5 h => have H := H.m 8 false (decide_eq_false h5); H.e [] h)) (fun h4 h => have H := H.t 9 [.bool (eventF c.no)] |>.m 7 false (bF h4) |>.s [(vt 0)] (vt 8) (eventF_ok c.no); iteE h (fun h5 h => have H := H.t 10 [.bool (decide (c.a ≥ 0))] |>.r [(.bin .geq (cT 1) (cI 0), (vt 9))] |>.m 8 true h5; iteE h (fun h6 h => have H := H.t 11 [.bool (decide (c.a ≤ 15))] |>.r [(.bin .leq (cT 1) (cI 15), (vt 10))] |>.m 9 true (decide_eq_true h6); H.e [] h) (fun h6 h => have H := H.m 9 false (decide_eq_false h6); H.e [] h)) (fun h5 h => have H := H.t 10 [.bool (decide (c.no = 9))] |>.r [(.bin .eql (cT 0) (cI 9), (vt 9))] |>.m 8 false (bF h5); H.e [] h)))))) (fun h0 h => have H := H.t 5 [.bool (decide (c.no = 3))] |>.r [(.bin .eql (cT 0) (cI 3), (vt 4))] |>.m 3 false (decide_eq_false h0); iteE h (fun h1 h => have H := H.t 6 [.bool (decide (c.b < (-1099511627776)))] |>.r [(.bin .lss (cT 2) (cI (-1099511627776)), (vt 5))] |>.m 4 true (decide_eq_true h1); iteE h (fun h2 h => have H := H.m 5 true (decide_eq_true h2); H.e [] h) (fun h2 h => have H := H.t 7 [.bool (decide (c.b > 1099511627776))] |>.r [(.bin .gtr (cT 2) (cI 1099511627776), (vt 6))] |>.m 5 false (decide_eq_false h2); iteE h (fun h3 h => have H := H.m 6 true (decide_eq_true h3); H.e [] h) (fun h3 h => have H := H.t 8 [.bool (portF c.no)] |>.m 6 false (decide_eq_false h3) |>.s [(vt 0)] (vt 7) (portF_ok c.no); iteE h (fun h4 h => have H := H.t 9 [.bool (decide (c.a ≥ 0))] |>.r [(.bin .geq (cT 1) (cI 0), (vt 8))] |>.m 7 true h4; iteE h (fun h5 h => have H := H.t 10 [.bool (decide (c.a ≤ 7))] |>.r [(.bin .leq (cT 1) (cI 7), (vt 9))] |>.m 8 true (decide_eq_true h5); H.e [] h) (fun h5 h => have H := H.m 8 false (decide_eq_false h5); H.e [] h)) (fun h4 h => have H := H.t 9 [.bool (nameF c.no)] |>.m 7 false (bF h4) |>.s [(vt 0)] (vt 8) (nameF_ok c.no); iteE h (fun h5 h => have H := H.t 10 [.bool (decide (c.a ≥ 0))] |>.r [(.bin .geq (cT 1) (cI 0), (vt 9))] |>.m 8 true h5; iteE h (fun h6 h => have H := H.t 11 [.bool (decide (c.a ≤ 65535))] |>.r [(.bin .leq (cT 1) (cI 65535), (vt 10))] |>.m 9 true (decide_eq_true h6); H.e [] h) (fun h6 h => have H := H.m 9 false (decide_eq_false h6); H.e [] h)) (fun h5 h => have H := H.t 10 [.bool (eventF c.no)] |>.m 8 false (bF h5) |>.s [(vt 0)] (vt 9) (eventF_ok c.no); iteE h (fun h6 h => have H := H.t 11 [.bool (decide (c.a ≥ 0))] |>.r [(.bin .geq (cT 1) (cI 0), (vt 10))] |>.m 9 true h6; iteE h (fun h7 h => have H := H.t 12 [.bool (decide (c.a ≤ 15))] |>.r [(.bin .leq (cT 1) (cI 15), (vt 11))] |>.m 10 true (decide_eq_true h7); H.e [] h) (fun h7 h => have H := H.m 10 false (decide_eq_false h7); H.e [] h)) (fun h6 h => have H := H.t 11 [.bool (decide (c.no = 9))] |>.r [(.bin .eql (cT 0) (cI 9), (vt 10))] |>.m 9 false (bF h6); H.e [] h)))))) (fun h1 h => have H := H.t 6 [.bool (portF c.no)] |>.m 4 false (decide_eq_false h1) |>.s [(vt 0)] (vt 5) (portF_ok c.no); iteE h (fun h2 h => have H := H.t 7 [.bool (decide (c.a ≥ 0))] |>.r [(.bin .geq (cT 1) (cI 0), (vt 6))] |>.m 5 true h2; iteE h (fun h3 h => have H := H.t 8 [.bool (decide (c.a ≤ 7))] |>.r [(.bin .leq (cT 1) (cI 7), (vt 7))] |>.m 6 true (decide_eq_true h3); H.e [] h) (fun h3 h => have H := H.m 6 false (decide_eq_false h3); H.e [] h)) (fun h2 h => have H := H.t 7 [.bool (nameF c.no)] |>.m 5 false (bF h2) |>.s [(vt 0)] (vt 6) (nameF_ok c.no); iteE h (fun h3 h => have H := H.t 8 [.bool (decide (c.a ≥ 0))] |>.r [(.bin .geq (cT 1) (cI 0), (vt 7))] |>.m 6 true h3; iteE h (fun h4 h => have H := H.t 9 [.bool (decide (c.a ≤ 65535))] |>.r [(.bin .leq (cT 1) (cI 65535), (vt 8))] |>.m 7 true (decide_eq_true h4); H.e [] h) (fun h4 h => have H := H.m 7 false (decide_eq_false h4); H.e [] h)) (fun h3 h => have H := H.t 8 [.bool (eventF c.no)] |>.m 6 false (bF h3) |>.s [(vt 0)] (vt 7) (eventF_ok c.no); iteE h (fun h4 h => have H := H.t 9 [.bool (decide (c.a ≥ 0))] |>.r [(.bin .geq (cT 1) (cI 0), (vt 8))] |>.m 7 true h4; iteE h (fun h5 h => have H := H.t 10 [.bool (decide (c.a ≤ 15))] |>.r [(.bin .leq (cT 1) (cI 15), (vt 9))] |>.m 8 true (decide_eq_true h5); H.e [] h) (fun h5 h => have H := H.m 8 false (decide_eq_false h5); H.e [] h)) (fun h4 h => have H := H.t 9 [.bool (decide (c.no = 9))] |>.r [(.bin .eql (cT 0) (cI 9), (vt 8))] |>.m 7 false (bF h4); H.e [] h))))))

def f14 (c : Cl) (e : Int) : Option AV :=
  if c.no = 0 then
    if e = 0 then
      some (.int .i64 1)
    else
      if (eventF c.no) = true then
        some (.int .i64 0)
      else
        some (.int .i64 0)
  else
    if c.no = 1 then
      if e = 0 then
        some (.int .i64 2)
      else
        if (eventF c.no) = true then
          some (.int .i64 0)
        else
          some (.int .i64 0)
    else
      if c.no = 2 then
        if e = 0 then
          some (.int .i64 2)
        else
          if e = 3 then
            some (.int .i64 3)
          else
            if (eventF c.no) = true then
              some (.int .i64 0)
            else
              some (.int .i64 0)
      else
        if c.no = 3 then
          if e = 0 then
            some (.int .i64 4)
          else
            if e = 4 then
              some (.int .i64 5)
            else
              if (eventF c.no) = true then
                some (.int .i64 0)
              else
                some (.int .i64 0)
        else
          if c.no = 4 then
            if e = 0 then
              some (.int .i64 8)
            else
              if e = 3 then
                some (.int .i64 7)
              else
                if (eventF c.no) = true then
                  some (.int .i64 0)
                else
                  some (.int .i64 0)
          else
            if c.no = 5 then
              if e = 3 then
                some (.int .i64 7)
              else
                if e = 0 then
                  some (.int .i64 6)
                else
                  if (eventF c.no) = true then
                    some (.int .i64 0)
                  else
                    some (.int .i64 0)
            else
              if (eventF c.no) = true then
                if e = 0 then
                  some (.int .i64 (w64 (4 + c.no)))
                else
                  some (.int .i64 0)
              else
                some (.int .i64 0)
def f14W : List AV := [(.agg [(vt 0), (vt 1), (vt 2)]), (vt 3)]
def f14V (c : Cl) (e : Int) (σ : Nat → Nat) : Val := (valL ([.int .i64 c.no, .int .i64 c.a, .int .i64 c.b, .int .i64 e]) ([]) [] σ 0)
def f14X (c : Cl) (e : Int) (_σ : Nat → Nat) : List AV := [(.agg [(.int .i64 c.no), (.int .i64 c.a), (.int .i64 c.b)]), (.int .i64 e)]
def f14Y (_c : Cl) (_e : Int) (_σ : Nat → Nat) : List Blk := []
theorem f14E (c : Cl) (e : Int) (σ : Nat → Nat) : f14W.map (gm (f14V c e σ)) = f14X c e σ := by kernel_rfl
theorem f14G (c : Cl) (e : Int) (σ : Nat → Nat) : ([] : List Blk).map (gB (f14V c e σ)) = f14Y c e σ := by kernel_rfl
set_option maxHeartbeats 10000000 in
theorem f14_ok (c : Cl) (e : Int) {r0 : AV} (h : f14 c e = some r0) : Spec FF 14 [(.agg [(.int .i64 c.no), (.int .i64 c.a), (.int .i64 c.b)]), (.int .i64 e)] r0 := by
  unfold f14 at h
  have hσ : ∀ i j : Nat, (fun i : Nat => i) i = (fun i : Nat => i) j → i = j := fun _ _ e => e
  exact spec_begin (ρ := f14V c e (fun i => i)) (xs := f14W) (by kernel_rfl) rfl rfl (by kernel_rfl) (fun z0 S => have H := Tok.start hσ S 0 4 0 0 ([.int .i64 c.no, .int .i64 c.a, .int .i64 c.b, .int .i64 e]) ([]) [] (.n) .n (f14E c e _) (f14G c e _); have H := H.t 6 [.bool (decide (e = 3)), .bool (decide (c.no = 0))] |>.r [(.bin .eql (cT 3) (cI 3), (vt 4)), (.bin .eql (cT 0) (cI 0), (vt 5))]; iteE h (fun h0 h => have H := H.t 7 [.bool (decide (e = 0))] |>.r [(.bin .eql (cT 3) (cI 0), (vt 6))] |>.m 5 true (decide_eq_true h0); iteE h (fun h1 h => have H := H.m 6 true (decide_eq_true h1); H.e [] h) (fun h1 h => have H := H.t 13 [.bool (decide (c.no = 1)), .bool (decide (c.no = 2)), .bool (decide (c.no = 3)), .bool (decide (c.no = 4)), .bool (decide (c.no = 5)), .bool (eventF c.no)] |>.r [(.bin .eql (cT 0) (cI 1), (vt 7)), (.bin .eql (cT 0) (cI 2), (vt 8)), (.bin .eql (cT 0) (cI 3), (vt 9)), (.bin .eql (cT 0) (cI 4), (vt 10)), (.bin .eql (cT 0) (cI 5), (vt 11))] |>.m 6 false (decide_eq_false h1) |>.m 7 false (b := (decide (c.no = 1))) (decide_eq_false (by omega)) |>.m 8 false (b := (decide (c.no = 2))) (decide_eq_false (by omega)) |>.m 9 false (b := (decide (c.no = 3))) (decide_eq_false (by omega)) |>.m 10 false (b := (decide (c.no = 4))) (decide_eq_false (by omega)) |>.m 11 false (b := (decide (c.no = 5))) (decide_eq_false (by omega)) |>.s [(vt 0)] (vt 12) (eventF_ok c.no); iteE h (fun h2 h => have H := H.m 12 true h2; H.e [] h) (fun h2 h => have H := H.m 12 false (bF h2); H.e [] h))) (fun h0 h => have H := H.t 7 [.bool (decide (c.no = 1))] |>.r [(.bin .eql (cT 0) (cI 1), (vt 6))] |>.m 5 false (decide_eq_false h0); iteE h (fun h1 h => have H := H.t 8 [.bool (decide (e = 0))] |>.r [(.bin .eql (cT 3) (cI 0), (vt 7))] |>.m 6 true (decide_eq_true h1); iteE h (fun h2 h => have H := H.m 7 true (decide_eq_true h2); H.e [] h) (fun h2 h => have H := H.t 13 [.bool (decide (c.no = 2)), .bool (decide (c.no = 3)), .bool (decide (c.no = 4)), .bool (decide (c.no = 5)), .bool (eventF c.no)] |>.r [(.bin .eql (cT 0) (cI 2), (vt 8)), (.bin .eql (cT 0) (cI 3), (vt 9)), (.bin .eql (cT 0) (cI 4), (vt 10)), (.bin .eql (cT 0) (cI 5), (vt 11))] |>.m 7 false (decide_eq_false h2) |>.m 8 false (b := (decide (c.no = 2))) (decide_eq_false (by omega)) |>.m 9 false (b := (decide (c.no = 3))) (decide_eq_false (by omega)) |>.m 10 false (b := (decide (c.no = 4))) (decide_eq_false (by omega)) |>.m 11 false (b := (decide (c.no = 5))) (decide_eq_false (by omega)) |>.s [(vt 0)] (vt 12) (eventF_ok c.no); iteE h (fun h3 h => have H := H.m 12 true h3; H.e [] h) (fun h3 h => have H := H.m 12 false (bF h3); H.e [] h))) (fun h1 h => have H := H.t 8 [.bool (decide (c.no = 2))] |>.r [(.bin .eql (cT 0) (cI 2), (vt 7))] |>.m 6 false (decide_eq_false h1); iteE h (fun h2 h => have H := H.t 9 [.bool (decide (e = 0))] |>.r [(.bin .eql (cT 3) (cI 0), (vt 8))] |>.m 7 true (decide_eq_true h2); iteE h (fun h3 h => have H := H.m 8 true (decide_eq_true h3); H.e [] h) (fun h3 h => have H := H.m 8 false (decide_eq_false h3); iteE h (fun h4 h => have H := H.m 4 true (decide_eq_true h4); H.e [] h) (fun h4 h => have H := H.t 13 [.bool (decide (c.no = 3)), .bool (decide (c.no = 4)), .bool (decide (c.no = 5)), .bool (eventF c.no)] |>.r [(.bin .eql (cT 0) (cI 3), (vt 9)), (.bin .eql (cT 0) (cI 4), (vt 10)), (.bin .eql (cT 0) (cI 5), (vt 11))] |>.m 4 false (decide_eq_false h4) |>.m 9 false (b := (decide (c.no = 3))) (decide_eq_false (by omega)) |>.m 10 false (b := (decide (c.no = 4))) (decide_eq_false (by omega)) |>.m 11 false (b := (decide (c.no = 5))) (decide_eq_false (by omega)) |>.s [(vt 0)] (vt 12) (eventF_ok c.no); iteE h (fun h5 h => have H := H.m 12 true h5; H.e [] h) (fun h5 h => have H := H.m 12 false (bF h5); H.e [] h)))) (fun h2 h => have H := H.t 9 [.bool (decide (c.no = 3))] |>.r [(.bin .eql (cT 0) (cI 3), (vt 8))] |>.m 7 false (decide_eq_false h2); iteE h (fun h3 h => have H := H.t 10 [.bool (decide (e = 0))] |>.r [(.bin .eql (cT 3) (cI 0), (vt 9))] |>.m 8 true (decide_eq_true h3); iteE h (fun h4 h => have H := H.m 9 true (decide_eq_true h4); H.e [] h) (fun h4 h => have H := H.t 11 [.bool (decide (e = 4))] |>.r [(.bin .eql (cT 3) (cI 4), (vt 10))] |>.m 9 false (decide_eq_false h4); iteE h (fun h5 h => have H := H.m 10 true (decide_eq_true h5); H.e [] h) (fun h5 h => have H := H.t 14 [.bool (decide (c.no = 4)), .bool (decide (c.no = 5)), .bool (eventF c.no)] |>.r [(.bin .eql (cT 0) (cI 4), (vt 11)), (.bin .eql (cT 0) (cI 5), (vt 12))] |>.m 10 false (decide_eq_false h5) |>.m 11 false (b := (decide (c.no = 4))) (decide_eq_false (by omega)) |>.m 12 false (b := (decide (c.no = 5))) (decide_eq_false (by omega)) |>.s [(vt 0)] (vt 13) (eventF_ok c.no); iteE h (fun h6 h => have H := H.m 13 true h6; H.e [] h) (fun h6 h => have H := H.m 13 false (bF h6); H.e [] h)))) (fun h3 h => have H := H.t 10 [.bool (decide (c.no = 4))] |>.r [(.bin .eql (cT 0) (cI 4), (vt 9))] |>.m 8 false (decide_eq_false h3); iteE h (fun h4 h => have H := H.t 11 [.bool (decide (e = 0))] |>.r [(.bin .eql (cT 3) (cI 0), (vt 10))] |>.m 9 true (decide_eq_true h4); iteE h (fun h5 h => have H := H.m 10 true (decide_eq_true h5); H.e [] h) (fun h5 h => have H := H.m 10 false (decide_eq_false h5); iteE h (fun h6 h => have H := H.m 4 true (decide_eq_true h6); H.e [] h) (fun h6 h => have H := H.t 13 [.bool (decide (c.no = 5)), .bool (eventF c.no)] |>.r [(.bin .eql (cT 0) (cI 5), (vt 11))] |>.m 4 false (decide_eq_false h6) |>.m 11 false (b := (decide (c.no = 5))) (decide_eq_false (by omega)) |>.s [(vt 0)] (vt 12) (eventF_ok c.no); iteE h (fun h7 h => have H := H.m 12 true h7; H.e [] h) (fun h7 h => have H := H.m 12 false (bF h7); H.e [] h)))) (fun h4 h => have H := H.t 11 [.bool (decide (c.no = 5))] |>.r [(.bin .eql (cT 0) (cI 5), (vt 10))] |>.m 9 false (decide_eq_false h4); iteE h (fun h5 h => have H := H.m 10 true (decide_eq_true h5); iteE h (fun h6 h => have H := H.m 4 true (decide_eq_true h6); H.e [] h) (fun h6 h => have H := H.t 12 [.bool (decide (e = 0))] |>.r [(.bin .eql (cT 3) (cI 0), (vt 11))] |>.m 4 false (decide_eq_false h6); iteE h (fun h7 h => have H := H.m 11 true (decide_eq_true h7); H.e [] h) (fun h7 h => have H := H.t 13 [.bool (eventF c.no)] |>.m 11 false (decide_eq_false h7) |>.s [(vt 0)] (vt 12) (eventF_ok c.no); iteE h (fun h8 h => have H := H.m 12 true h8; H.e [] h) (fun h8 h => have H := H.m 12 false (bF h8); H.e [] h)))) (fun h5 h => have H := H.t 12 [.bool (eventF c.no)] |>.m 10 false (decide_eq_false h5) |>.s [(vt 0)] (vt 11) (eventF_ok c.no); iteE h (fun h6 h => have H := H.t 13 [.bool (decide (e = 0))] |>.r [(.bin .eql (cT 3) (cI 0), (vt 12))] |>.m 11 true h6; iteE h (fun h7 h => have H := H.t 14 [.int .i64 (w64 (4 + c.no))] |>.r [(.bin .add (cI 4) (cT 0), (vt 13))] |>.m 12 true (decide_eq_true h7); H.e [] h) (fun h7 h => have H := H.m 12 false (decide_eq_false h7); H.e [] h)) (fun h6 h => have H := H.m 11 false (bF h6); H.e [] h))))))))

def f38 (c : Cl) (e : Int) : Option AV :=
  letB (ofF c) fun x0 =>
  if e = 0 then
    some (.int .i64 x0.1.well)
  else
    if e = 3 then
      some (.int .i64 x0.1.none)
    else
      if e = 4 then
        some (.int .i64 x0.1.had)
      else
        some (.int .i64 0)
def f38W : List AV := [(.agg [(vt 0), (vt 1), (vt 2)]), (vt 3)]
def f38V (c : Cl) (e : Int) (σ : Nat → Nat) : Val := (valL ([.int .i64 c.no, .int .i64 c.a, .int .i64 c.b, .int .i64 e]) ([]) [] σ 0)
def f38X (c : Cl) (e : Int) (_σ : Nat → Nat) : List AV := [(.agg [(.int .i64 c.no), (.int .i64 c.a), (.int .i64 c.b)]), (.int .i64 e)]
def f38Y (_c : Cl) (_e : Int) (_σ : Nat → Nat) : List Blk := []
theorem f38E (c : Cl) (e : Int) (σ : Nat → Nat) : f38W.map (gm (f38V c e σ)) = f38X c e σ := by kernel_rfl
theorem f38G (c : Cl) (e : Int) (σ : Nat → Nat) : ([] : List Blk).map (gB (f38V c e σ)) = f38Y c e σ := by kernel_rfl
theorem f38_ok (c : Cl) (e : Int) {r0 : AV} (h : f38 c e = some r0) : Spec FF 38 [(.agg [(.int .i64 c.no), (.int .i64 c.a), (.int .i64 c.b)]), (.int .i64 e)] r0 := by
  unfold f38 at h
  have hσ : ∀ i j : Nat, (fun i : Nat => i) i = (fun i : Nat => i) j → i = j := fun _ _ e => e
  exact spec_begin (ρ := f38V c e (fun i => i)) (xs := f38W) (by kernel_rfl) rfl rfl (by kernel_rfl) (fun z0 S => have H := Tok.start hσ S 0 4 0 0 ([.int .i64 c.no, .int .i64 c.a, .int .i64 c.b, .int .i64 e]) ([]) [] (.n) .n (f38E c e _) (f38G c e _); letE h (fun x0 h0 h => have H := H.t 13 [.str x0.1.w, .int .i64 x0.1.op, .int .i64 x0.1.most, .bool x0.1.value, .int .i64 x0.1.well, .int .i64 x0.1.none, .int .i64 x0.1.had, .bool x0.2, .bool (decide (e = 0))] |>.r [(.bin .eql (cT 3) (cI 0), (vt 12))] |>.s [(.agg [(vt 0), (vt 1), (vt 2)])] (.tup [(.agg (vT 4 7)), (vt 11)]) (of_ok c h0); iteE h (fun h1 h => have H := H.m 12 true (decide_eq_true h1); H.e [] h) (fun h1 h => have H := H.t 14 [.bool (decide (e = 3))] |>.r [(.bin .eql (cT 3) (cI 3), (vt 13))] |>.m 12 false (decide_eq_false h1); iteE h (fun h2 h => have H := H.m 13 true (decide_eq_true h2); H.e [] h) (fun h2 h => have H := H.t 15 [.bool (decide (e = 4))] |>.r [(.bin .eql (cT 3) (cI 4), (vt 14))] |>.m 13 false (decide_eq_false h2); iteE h (fun h3 h => have H := H.m 14 true (decide_eq_true h3); H.e [] h) (fun h3 h => have H := H.m 14 false (decide_eq_false h3); H.e [] h)))))

def f26 (c : Cl) (t : Int) (id : Int) : Option AV :=
  letB (ofF c) fun x0 =>
  if (!x0.2) = true then
    some (.tup [(.int .i64 0), (.agg [(.int .i64 0), (.int .i64 0), (.int .i64 0)]), (.int .i64 1)])
  else
    if c.no = 0 then
      some (.tup [(.int .i64 x0.1.op), (.agg [(.int .i64 c.a), (.int .i64 c.b), (.int .i64 id)]), (.int .i64 0)])
    else
      if c.no = 1 then
        some (.tup [(.int .i64 x0.1.op), (.agg [(.int .i64 c.a), (.int .i64 t), (.int .i64 0)]), (.int .i64 0)])
      else
        if c.no = 9 then
          some (.tup [(.int .i64 x0.1.op), (.agg [(.int .i64 t), (.int .i64 id), (.int .i64 0)]), (.int .i64 0)])
        else
          if x0.1.value = true then
            some (.tup [(.int .i64 x0.1.op), (.agg [(.int .i64 c.a), (.int .i64 c.b), (.int .i64 0)]), (.int .i64 0)])
          else
            some (.tup [(.int .i64 x0.1.op), (.agg [(.int .i64 c.a), (.int .i64 0), (.int .i64 0)]), (.int .i64 0)])
def f26W : List AV := [(.agg [(vt 0), (vt 1), (vt 2)]), (vt 3), (vt 4)]
def f26V (c : Cl) (t : Int) (id : Int) (σ : Nat → Nat) : Val := (valL ([.int .i64 c.no, .int .i64 c.a, .int .i64 c.b, .int .i64 t, .int .i64 id]) ([]) [] σ 0)
def f26X (c : Cl) (t : Int) (id : Int) (_σ : Nat → Nat) : List AV := [(.agg [(.int .i64 c.no), (.int .i64 c.a), (.int .i64 c.b)]), (.int .i64 t), (.int .i64 id)]
def f26Y (_c : Cl) (_t : Int) (_id : Int) (_σ : Nat → Nat) : List Blk := []
theorem f26E (c : Cl) (t : Int) (id : Int) (σ : Nat → Nat) : f26W.map (gm (f26V c t id σ)) = f26X c t id σ := by kernel_rfl
theorem f26G (c : Cl) (t : Int) (id : Int) (σ : Nat → Nat) : ([] : List Blk).map (gB (f26V c t id σ)) = f26Y c t id σ := by kernel_rfl
theorem f26_ok (c : Cl) (t : Int) (id : Int) {r0 : AV} (h : f26 c t id = some r0) : Spec FF 26 [(.agg [(.int .i64 c.no), (.int .i64 c.a), (.int .i64 c.b)]), (.int .i64 t), (.int .i64 id)] r0 := by
  unfold f26 at h
  have hσ : ∀ i j : Nat, (fun i : Nat => i) i = (fun i : Nat => i) j → i = j := fun _ _ e => e
  exact spec_begin (ρ := f26V c t id (fun i => i)) (xs := f26W) (by kernel_rfl) rfl rfl (by kernel_rfl) (fun z0 S => have H := Tok.start hσ S 0 5 0 0 ([.int .i64 c.no, .int .i64 c.a, .int .i64 c.b, .int .i64 t, .int .i64 id]) ([]) [] (.n) .n (f26E c t id _) (f26G c t id _); letE h (fun x0 h0 h => have H := H.t 14 [.str x0.1.w, .int .i64 x0.1.op, .int .i64 x0.1.most, .bool x0.1.value, .int .i64 x0.1.well, .int .i64 x0.1.none, .int .i64 x0.1.had, .bool x0.2, .bool (!x0.2)] |>.r [(.un .not (cT 12), (vt 13))] |>.s [(.agg [(vt 0), (vt 1), (vt 2)])] (.tup [(.agg (vT 5 7)), (vt 12)]) (of_ok c h0); iteE h (fun h1 h => have H := H.m 13 true h1; H.e [] h) (fun h1 h => have H := H.t 15 [.bool (decide (c.no = 0))] |>.r [(.bin .eql (cT 0) (cI 0), (vt 14))] |>.m 13 false (bF h1); iteE h (fun h2 h => have H := H.m 14 true (decide_eq_true h2); H.e [] h) (fun h2 h => have H := H.t 16 [.bool (decide (c.no = 1))] |>.r [(.bin .eql (cT 0) (cI 1), (vt 15))] |>.m 14 false (decide_eq_false h2); iteE h (fun h3 h => have H := H.m 15 true (decide_eq_true h3); H.e [] h) (fun h3 h => have H := H.t 17 [.bool (decide (c.no = 9))] |>.r [(.bin .eql (cT 0) (cI 9), (vt 16))] |>.m 15 false (decide_eq_false h3); iteE h (fun h4 h => have H := H.m 16 true (decide_eq_true h4); H.e [] h) (fun h4 h => have H := H.m 16 false (decide_eq_false h4); iteE h (fun h5 h => have H := H.m 8 true h5; H.e [] h) (fun h5 h => have H := H.m 8 false (bF h5); H.e [] h)))))))

end Go.Proofs.Hz
open Go Go.Proofs
namespace Go.Proofs.Hz
theorem bool_leaf {P : Prop} [Decidable P] {b : Bool} (h : b = true ↔ P) : some (AV.bool b) = some (AV.bool (decide P)) := by
  congr 2
  rw [Bool.eq_iff_iff, h, decide_eq_true_eq]
theorem f12_eq (c : Cl) : f12 c = some (.bool (mayF c)) := by
  have e1 : ∀ n, (portF n = true) = (0 ≤ n ∧ n ≤ 2) := fun n => by simp [portF]
  have e2 : ∀ n, (nameF n = true) = (3 ≤ n ∧ n ≤ 5) := fun n => by simp [nameF]
  have e3 : ∀ n, (eventF n = true) = (6 ≤ n ∧ n ≤ 8) := fun n => by simp [eventF]
  unfold f12 mayF
  simp only [e1, e2, e3]
  (repeat' split) <;> first | (exfalso; omega) | rfl | (refine bool_leaf ?_; simp only [decide_eq_true_eq, Bool.false_eq_true, false_iff]; omega)
theorem f14_eq (c : Cl) (e : Int) : f14 c e = some (.int .i64 (kindF c.no e)) := by
  have e3 : ∀ n, (eventF n = true) = (6 ≤ n ∧ n ≤ 8) := fun n => by simp [eventF]
  have hw : 6 ≤ c.no ∧ c.no ≤ 8 → w64 (4 + c.no) = 4 + c.no := fun h => by unfold w64 IntKind.wrap; simp [IntKind.signed, IntKind.bits]; omega
  unfold f14 kindF
  simp only [e3]
  (repeat' split) <;> first | (exfalso; omega) | rfl | (rw [hw (by omega)])
theorem f38_eq (c : Cl) (e : Int) : f38 c e = some (.int .i64 (kindF c.no e)) := by
  have out : ∀ {a b d : Int}, (kdOf c.no).well = a → (kdOf c.no).none = b → (kdOf c.no).had = d → f38 c e = some (.int .i64 (if e = 0 then a else if e = 3 then b else if e = 4 then d else 0)) := fun h1 h2 h3 => by
    unfold f38 letB ofF
    simp only [h1, h2, h3]
    (repeat' split) <;> rfl
  rcases kd_cases c.no with h | h | h | h | h | h | h | h | h | h | h
  case inr.inr.inr.inr.inr.inr.inr.inr.inr.inr =>
    have hk := kd_none h
    rw [out (a := 0) (b := 0) (d := 0) (by rw [hk]) (by rw [hk]) (by rw [hk])]
    unfold kindF
    (repeat' split) <;> first | rfl | (exfalso; omega)
  all_goals
    rw [out (by rw [h]) (by rw [h]) (by rw [h])]
    unfold kindF
    rw [h]
    (repeat' split) <;> first | rfl | (exfalso; omega)
theorem f26_eq (c : Cl) (t id : Int) : f26 c t id = some (.tup [.int .i64 (decOp c), .agg [.int .i64 (decR c t id 0), .int .i64 (decR c t id 1), .int .i64 (decR c t id 2)], .int .i64 (decE c)]) := by
  have hr : ∀ i, decR c t id i = if mayF c then (if c.no = 0 then [c.a, c.b, id].getD i 0 else if c.no = 1 then [c.a, t, 0].getD i 0 else if c.no = 9 then [t, id, 0].getD i 0 else if c.no = 3 then [c.a, c.b, 0].getD i 0 else [c.a, 0, 0].getD i 0) else 0 := fun i => rfl
  unfold f26 letB ofF decOp decE
  simp only [hr]
  by_cases hm : mayF c = true
  · rw [if_neg (by simp [hm])]
    simp only [hm, if_true]
    by_cases h0 : c.no = 0
    · simp [h0]
    by_cases h1 : c.no = 1
    · simp [h0, h1]
    by_cases h9 : c.no = 9
    · simp [h0, h1, h9]
    by_cases h3 : c.no = 3
    · simp [h0, h1, h9, h3, kdOf]
    · have : (kdOf c.no).value = false := by unfold kdOf; (repeat' split) <;> first | rfl | (exfalso; omega)
      simp [h0, h1, h9, h3, this]
  · rw [if_pos (by simp [hm])]
    simp [hm]
theorem mayF_ok (c : Cl) : Spec FF 12 [c.av] (.bool (mayF c)) := f12_ok c (f12_eq c)
theorem kind14_ok (c : Cl) (e : Int) : Spec FF 14 [c.av, .int .i64 e] (.int .i64 (kindF c.no e)) := f14_ok c e (f14_eq c e)
theorem kind38_ok (c : Cl) (e : Int) : Spec FF 38 [c.av, .int .i64 e] (.int .i64 (kindF c.no e)) := f38_ok c e (f38_eq c e)
theorem decode_ok (c : Cl) (t id : Int) : Spec FF 26 [c.av, .int .i64 t, .int .i64 id] (.tup [.int .i64 (decOp c), .agg [.int .i64 (decR c t id 0), .int .i64 (decR c t id 1), .int .i64 (decR c t id 2)], .int .i64 (decE c)]) := f26_ok c t id (f26_eq c t id)
end Go.Proofs.Hz
