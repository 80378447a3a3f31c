/-
  Chapter 15: what syscalls mean.
  Conditions: none.
-/
import Derived.Test.YtkkhoflfhonlgaaDoorWx
open Go Go.Proofs
namespace Go.Proofs.Hz
def qmay (c : Cl) : Option AV :=
  if c.no = 0 then
    if c.b < (-1099511627776) then
      some (.bool false)
    else
      if c.b > 1099511627776 then
        some (.bool false)
      else
        if (portF c.no) = true then
          if c.a ≥ 0 then
            some (.bool (decide (c.a ≤ 7)))
          else
            some (.bool false)
        else
          if (nameF c.no) = true then
            if c.a ≥ 0 then
              some (.bool (decide (c.a ≤ 65535)))
            else
              some (.bool false)
          else
            if (eventF c.no) = true then
              if c.a ≥ 0 then
                some (.bool (decide (c.a ≤ 15)))
              else
                some (.bool false)
            else
              some (.bool (decide (c.no = 9)))
  else
    if c.no = 3 then
      if c.b < (-1099511627776) then
        some (.bool false)
      else
        if c.b > 1099511627776 then
          some (.bool false)
        else
          if (portF c.no) = true then
            if c.a ≥ 0 then
              some (.bool (decide (c.a ≤ 7)))
            else
              some (.bool false)
          else
            if (nameF c.no) = true then
              if c.a ≥ 0 then
                some (.bool (decide (c.a ≤ 65535)))
              else
                some (.bool false)
            else
              if (eventF c.no) = true then
                if c.a ≥ 0 then
                  some (.bool (decide (c.a ≤ 15)))
                else
                  some (.bool false)
              else
                some (.bool (decide (c.no = 9)))
    else
      if (portF c.no) = true then
        if c.a ≥ 0 then
          some (.bool (decide (c.a ≤ 7)))
        else
          some (.bool false)
      else
        if (nameF c.no) = true then
          if c.a ≥ 0 then
            some (.bool (decide (c.a ≤ 65535)))
          else
            some (.bool false)
        else
          if (eventF c.no) = true then
            if c.a ≥ 0 then
              some (.bool (decide (c.a ≤ 15)))
            else
              some (.bool false)
          else
            some (.bool (decide (c.no = 9)))
def qmayW : List AV := [(.agg [(vt 0), (vt 1), (vt 2)])]
def qmayV (c : Cl) (σ : Nat → Nat) : Val := (valL ([.int .i64 c.no, .int .i64 c.a, .int .i64 c.b]) ([]) [] σ 0)
def qmayX (c : Cl) (_σ : Nat → Nat) : List AV := [(.agg [(.int .i64 c.no), (.int .i64 c.a), (.int .i64 c.b)])]
def qmayY (_c : Cl) (_σ : Nat → Nat) : List Blk := []
theorem qmayE (c : Cl) (σ : Nat → Nat) : qmayW.map (gm (qmayV c σ)) = qmayX c σ := by kernel_rfl
theorem qmayG (c : Cl) (σ : Nat → Nat) : ([] : List Blk).map (gB (qmayV c σ)) = qmayY c σ := by kernel_rfl
set_option maxHeartbeats 10000000 in
theorem qmay_ok (c : Cl) {r0 : AV} (h : qmay c = some r0) : Spec FF 14 [(.agg [(.int .i64 c.no), (.int .i64 c.a), (.int .i64 c.b)])] r0 := by
  unfold qmay at h
  have hσ : ∀ i j : Nat, (fun i : Nat => i) i = (fun i : Nat => i) j → i = j := fun _ _ e => e
  exact spec_begin (ρ := qmayV c (fun i => i)) (xs := qmayW) (by kernel_rfl) rfl rfl (by kernel_rfl) (fun z0 S => have H := Tok.start hσ S 0 3 0 0 ([.int .i64 c.no, .int .i64 c.a, .int .i64 c.b]) ([]) [] (.n) .n (qmayE c _) (qmayG c _); have H := H.t 4 [.bool (decide (c.no = 0))] |>.r [(.bin .eql (cT 0) (cI 0), (vt 3))]; iteE h (fun h0 h => have H := H.t 5 [.bool (decide (c.b < (-1099511627776)))] |>.r [(.bin .lss (cT 2) (cI (-1099511627776)), (vt 4))] |>.m 3 true (decide_eq_true h0); iteE h (fun h1 h => have H := H.m 4 true (decide_eq_true h1); H.e [] h) (fun h1 h => have H := H.t 6 [.bool (decide (c.b > 1099511627776))] |>.r [(.bin .gtr (cT 2) (cI 1099511627776), (vt 5))] |>.m 4 false (decide_eq_false h1); iteE h (fun h2 h => have H := H.m 5 true (decide_eq_true h2); H.e [] h) (fun h2 h => have H := H.t 7 [.bool (portF c.no)] |>.m 5 false (decide_eq_false h2) |>.s [(vt 0)] (vt 6) (portF_ok c.no); iteE h (fun h3 h => have H := H.t 8 [.bool (decide (c.a ≥ 0))] |>.r [(.bin .geq (cT 1) (cI 0), (vt 7))] |>.m 6 true h3; iteE h (fun h4 h => have H := H.t 9 [.bool (decide (c.a ≤ 7))] |>.r [(.bin .leq (cT 1) (cI 7), (vt 8))] |>.m 7 true (decide_eq_true h4); H.e [] h) (fun h4 h => have H := H.m 7 false (decide_eq_false h4); H.e [] h)) (fun h3 h => have H := H.t 8 [.bool (nameF c.no)] |>.m 6 false (bF h3) |>.s [(vt 0)] (vt 7) (nameF_ok c.no); iteE h (fun h4 h => have H := H.t 9 [.bool (decide (c.a ≥ 0))] |>.r [(.bin .geq (cT 1) (cI 0), (vt 8))] |>.m 7 true h4; iteE h (fun h5 h => have H := H.t 10 [.bool (decide (c.a ≤ 65535))] |>.r [(.bin .leq (cT 1) (cI 65535), (vt 9))] |>.m 8 true (decide_eq_true h5); H.e [] h) (fun h5 h => have H := H.m 8 false (decide_eq_false h5); H.e [] h)) (fun h4 h => have H := H.t 9 [.bool (eventF c.no)] |>.m 7 false (bF h4) |>.s [(vt 0)] (vt 8) (eventF_ok c.no); iteE h (fun h5 h => have H := H.t 10 [.bool (decide (c.a ≥ 0))] |>.r [(.bin .geq (cT 1) (cI 0), (vt 9))] |>.m 8 true h5; iteE h (fun h6 h => have H := H.t 11 [.bool (decide (c.a ≤ 15))] |>.r [(.bin .leq (cT 1) (cI 15), (vt 10))] |>.m 9 true (decide_eq_true h6); H.e [] h) (fun h6 h => have H := H.m 9 false (decide_eq_false h6); H.e [] h)) (fun h5 h => have H := H.t 10 [.bool (decide (c.no = 9))] |>.r [(.bin .eql (cT 0) (cI 9), (vt 9))] |>.m 8 false (bF h5); H.e [] h)))))) (fun h0 h => have H := H.t 5 [.bool (decide (c.no = 3))] |>.r [(.bin .eql (cT 0) (cI 3), (vt 4))] |>.m 3 false (decide_eq_false h0); iteE h (fun h1 h => have H := H.t 6 [.bool (decide (c.b < (-1099511627776)))] |>.r [(.bin .lss (cT 2) (cI (-1099511627776)), (vt 5))] |>.m 4 true (decide_eq_true h1); iteE h (fun h2 h => have H := H.m 5 true (decide_eq_true h2); H.e [] h) (fun h2 h => have H := H.t 7 [.bool (decide (c.b > 1099511627776))] |>.r [(.bin .gtr (cT 2) (cI 1099511627776), (vt 6))] |>.m 5 false (decide_eq_false h2); iteE h (fun h3 h => have H := H.m 6 true (decide_eq_true h3); H.e [] h) (fun h3 h => have H := H.t 8 [.bool (portF c.no)] |>.m 6 false (decide_eq_false h3) |>.s [(vt 0)] (vt 7) (portF_ok c.no); iteE h (fun h4 h => have H := H.t 9 [.bool (decide (c.a ≥ 0))] |>.r [(.bin .geq (cT 1) (cI 0), (vt 8))] |>.m 7 true h4; iteE h (fun h5 h => have H := H.t 10 [.bool (decide (c.a ≤ 7))] |>.r [(.bin .leq (cT 1) (cI 7), (vt 9))] |>.m 8 true (decide_eq_true h5); H.e [] h) (fun h5 h => have H := H.m 8 false (decide_eq_false h5); H.e [] h)) (fun h4 h => have H := H.t 9 [.bool (nameF c.no)] |>.m 7 false (bF h4) |>.s [(vt 0)] (vt 8) (nameF_ok c.no); iteE h (fun h5 h => have H := H.t 10 [.bool (decide (c.a ≥ 0))] |>.r [(.bin .geq (cT 1) (cI 0), (vt 9))] |>.m 8 true h5; iteE h (fun h6 h => have H := H.t 11 [.bool (decide (c.a ≤ 65535))] |>.r [(.bin .leq (cT 1) (cI 65535), (vt 10))] |>.m 9 true (decide_eq_true h6); H.e [] h) (fun h6 h => have H := H.m 9 false (decide_eq_false h6); H.e [] h)) (fun h5 h => have H := H.t 10 [.bool (eventF c.no)] |>.m 8 false (bF h5) |>.s [(vt 0)] (vt 9) (eventF_ok c.no); iteE h (fun h6 h => have H := H.t 11 [.bool (decide (c.a ≥ 0))] |>.r [(.bin .geq (cT 1) (cI 0), (vt 10))] |>.m 9 true h6; iteE h (fun h7 h => have H := H.t 12 [.bool (decide (c.a ≤ 15))] |>.r [(.bin .leq (cT 1) (cI 15), (vt 11))] |>.m 10 true (decide_eq_true h7); H.e [] h) (fun h7 h => have H := H.m 10 false (decide_eq_false h7); H.e [] h)) (fun h6 h => have H := H.t 11 [.bool (decide (c.no = 9))] |>.r [(.bin .eql (cT 0) (cI 9), (vt 10))] |>.m 9 false (bF h6); H.e [] h)))))) (fun h1 h => have H := H.t 6 [.bool (portF c.no)] |>.m 4 false (decide_eq_false h1) |>.s [(vt 0)] (vt 5) (portF_ok c.no); iteE h (fun h2 h => have H := H.t 7 [.bool (decide (c.a ≥ 0))] |>.r [(.bin .geq (cT 1) (cI 0), (vt 6))] |>.m 5 true h2; iteE h (fun h3 h => have H := H.t 8 [.bool (decide (c.a ≤ 7))] |>.r [(.bin .leq (cT 1) (cI 7), (vt 7))] |>.m 6 true (decide_eq_true h3); H.e [] h) (fun h3 h => have H := H.m 6 false (decide_eq_false h3); H.e [] h)) (fun h2 h => have H := H.t 7 [.bool (nameF c.no)] |>.m 5 false (bF h2) |>.s [(vt 0)] (vt 6) (nameF_ok c.no); iteE h (fun h3 h => have H := H.t 8 [.bool (decide (c.a ≥ 0))] |>.r [(.bin .geq (cT 1) (cI 0), (vt 7))] |>.m 6 true h3; iteE h (fun h4 h => have H := H.t 9 [.bool (decide (c.a ≤ 65535))] |>.r [(.bin .leq (cT 1) (cI 65535), (vt 8))] |>.m 7 true (decide_eq_true h4); H.e [] h) (fun h4 h => have H := H.m 7 false (decide_eq_false h4); H.e [] h)) (fun h3 h => have H := H.t 8 [.bool (eventF c.no)] |>.m 6 false (bF h3) |>.s [(vt 0)] (vt 7) (eventF_ok c.no); iteE h (fun h4 h => have H := H.t 9 [.bool (decide (c.a ≥ 0))] |>.r [(.bin .geq (cT 1) (cI 0), (vt 8))] |>.m 7 true h4; iteE h (fun h5 h => have H := H.t 10 [.bool (decide (c.a ≤ 15))] |>.r [(.bin .leq (cT 1) (cI 15), (vt 9))] |>.m 8 true (decide_eq_true h5); H.e [] h) (fun h5 h => have H := H.m 8 false (decide_eq_false h5); H.e [] h)) (fun h4 h => have H := H.t 9 [.bool (decide (c.no = 9))] |>.r [(.bin .eql (cT 0) (cI 9), (vt 8))] |>.m 7 false (bF h4); H.e [] h))))))

def qkindR (c : Cl) (e : Int) : Option AV :=
  if c.no = 0 then
    if e = 0 then
      some (.int .i64 1)
    else
      if (eventF c.no) = true then
        some (.int .i64 0)
      else
        some (.int .i64 0)
  else
    if c.no = 1 then
      if e = 0 then
        some (.int .i64 2)
      else
        if (eventF c.no) = true then
          some (.int .i64 0)
        else
          some (.int .i64 0)
    else
      if c.no = 2 then
        if e = 0 then
          some (.int .i64 2)
        else
          if e = 3 then
            some (.int .i64 3)
          else
            if (eventF c.no) = true then
              some (.int .i64 0)
            else
              some (.int .i64 0)
      else
        if c.no = 3 then
          if e = 0 then
            some (.int .i64 4)
          else
            if e = 4 then
              some (.int .i64 5)
            else
              if (eventF c.no) = true then
                some (.int .i64 0)
              else
                some (.int .i64 0)
        else
          if c.no = 4 then
            if e = 0 then
              some (.int .i64 8)
            else
              if e = 3 then
                some (.int .i64 7)
              else
                if (eventF c.no) = true then
                  some (.int .i64 0)
                else
                  some (.int .i64 0)
          else
            if c.no = 5 then
              if e = 3 then
                some (.int .i64 7)
              else
                if e = 0 then
                  some (.int .i64 6)
                else
                  if (eventF c.no) = true then
                    some (.int .i64 0)
                  else
                    some (.int .i64 0)
            else
              if (eventF c.no) = true then
                if e = 0 then
                  some (.int .i64 (w64 (4 + c.no)))
                else
                  some (.int .i64 0)
              else
                some (.int .i64 0)
def qkindRW : List AV := [(.agg [(vt 0), (vt 1), (vt 2)]), (vt 3)]
def qkindRV (c : Cl) (e : Int) (σ : Nat → Nat) : Val := (valL ([.int .i64 c.no, .int .i64 c.a, .int .i64 c.b, .int .i64 e]) ([]) [] σ 0)
def qkindRX (c : Cl) (e : Int) (_σ : Nat → Nat) : List AV := [(.agg [(.int .i64 c.no), (.int .i64 c.a), (.int .i64 c.b)]), (.int .i64 e)]
def qkindRY (_c : Cl) (_e : Int) (_σ : Nat → Nat) : List Blk := []
theorem qkindRE (c : Cl) (e : Int) (σ : Nat → Nat) : qkindRW.map (gm (qkindRV c e σ)) = qkindRX c e σ := by kernel_rfl
theorem qkindRG (c : Cl) (e : Int) (σ : Nat → Nat) : ([] : List Blk).map (gB (qkindRV c e σ)) = qkindRY c e σ := by kernel_rfl
set_option maxHeartbeats 10000000 in
theorem qkindR_ok (c : Cl) (e : Int) {r0 : AV} (h : qkindR c e = some r0) : Spec FF 16 [(.agg [(.int .i64 c.no), (.int .i64 c.a), (.int .i64 c.b)]), (.int .i64 e)] r0 := by
  unfold qkindR at h
  have hσ : ∀ i j : Nat, (fun i : Nat => i) i = (fun i : Nat => i) j → i = j := fun _ _ e => e
  exact spec_begin (ρ := qkindRV c e (fun i => i)) (xs := qkindRW) (by kernel_rfl) rfl rfl (by kernel_rfl) (fun z0 S => have H := Tok.start hσ S 0 4 0 0 ([.int .i64 c.no, .int .i64 c.a, .int .i64 c.b, .int .i64 e]) ([]) [] (.n) .n (qkindRE c e _) (qkindRG c e _); have H := H.t 6 [.bool (decide (e = 3)), .bool (decide (c.no = 0))] |>.r [(.bin .eql (cT 3) (cI 3), (vt 4)), (.bin .eql (cT 0) (cI 0), (vt 5))]; iteE h (fun h0 h => have H := H.t 7 [.bool (decide (e = 0))] |>.r [(.bin .eql (cT 3) (cI 0), (vt 6))] |>.m 5 true (decide_eq_true h0); iteE h (fun h1 h => have H := H.m 6 true (decide_eq_true h1); H.e [] h) (fun h1 h => have H := H.t 13 [.bool (decide (c.no = 1)), .bool (decide (c.no = 2)), .bool (decide (c.no = 3)), .bool (decide (c.no = 4)), .bool (decide (c.no = 5)), .bool (eventF c.no)] |>.r [(.bin .eql (cT 0) (cI 1), (vt 7)), (.bin .eql (cT 0) (cI 2), (vt 8)), (.bin .eql (cT 0) (cI 3), (vt 9)), (.bin .eql (cT 0) (cI 4), (vt 10)), (.bin .eql (cT 0) (cI 5), (vt 11))] |>.m 6 false (decide_eq_false h1) |>.m 7 false (b := (decide (c.no = 1))) (decide_eq_false (by omega)) |>.m 8 false (b := (decide (c.no = 2))) (decide_eq_false (by omega)) |>.m 9 false (b := (decide (c.no = 3))) (decide_eq_false (by omega)) |>.m 10 false (b := (decide (c.no = 4))) (decide_eq_false (by omega)) |>.m 11 false (b := (decide (c.no = 5))) (decide_eq_false (by omega)) |>.s [(vt 0)] (vt 12) (eventF_ok c.no); iteE h (fun h2 h => have H := H.m 12 true h2; H.e [] h) (fun h2 h => have H := H.m 12 false (bF h2); H.e [] h))) (fun h0 h => have H := H.t 7 [.bool (decide (c.no = 1))] |>.r [(.bin .eql (cT 0) (cI 1), (vt 6))] |>.m 5 false (decide_eq_false h0); iteE h (fun h1 h => have H := H.t 8 [.bool (decide (e = 0))] |>.r [(.bin .eql (cT 3) (cI 0), (vt 7))] |>.m 6 true (decide_eq_true h1); iteE h (fun h2 h => have H := H.m 7 true (decide_eq_true h2); H.e [] h) (fun h2 h => have H := H.t 13 [.bool (decide (c.no = 2)), .bool (decide (c.no = 3)), .bool (decide (c.no = 4)), .bool (decide (c.no = 5)), .bool (eventF c.no)] |>.r [(.bin .eql (cT 0) (cI 2), (vt 8)), (.bin .eql (cT 0) (cI 3), (vt 9)), (.bin .eql (cT 0) (cI 4), (vt 10)), (.bin .eql (cT 0) (cI 5), (vt 11))] |>.m 7 false (decide_eq_false h2) |>.m 8 false (b := (decide (c.no = 2))) (decide_eq_false (by omega)) |>.m 9 false (b := (decide (c.no = 3))) (decide_eq_false (by omega)) |>.m 10 false (b := (decide (c.no = 4))) (decide_eq_false (by omega)) |>.m 11 false (b := (decide (c.no = 5))) (decide_eq_false (by omega)) |>.s [(vt 0)] (vt 12) (eventF_ok c.no); iteE h (fun h3 h => have H := H.m 12 true h3; H.e [] h) (fun h3 h => have H := H.m 12 false (bF h3); H.e [] h))) (fun h1 h => have H := H.t 8 [.bool (decide (c.no = 2))] |>.r [(.bin .eql (cT 0) (cI 2), (vt 7))] |>.m 6 false (decide_eq_false h1); iteE h (fun h2 h => have H := H.t 9 [.bool (decide (e = 0))] |>.r [(.bin .eql (cT 3) (cI 0), (vt 8))] |>.m 7 true (decide_eq_true h2); iteE h (fun h3 h => have H := H.m 8 true (decide_eq_true h3); H.e [] h) (fun h3 h => have H := H.m 8 false (decide_eq_false h3); iteE h (fun h4 h => have H := H.m 4 true (decide_eq_true h4); H.e [] h) (fun h4 h => have H := H.t 13 [.bool (decide (c.no = 3)), .bool (decide (c.no = 4)), .bool (decide (c.no = 5)), .bool (eventF c.no)] |>.r [(.bin .eql (cT 0) (cI 3), (vt 9)), (.bin .eql (cT 0) (cI 4), (vt 10)), (.bin .eql (cT 0) (cI 5), (vt 11))] |>.m 4 false (decide_eq_false h4) |>.m 9 false (b := (decide (c.no = 3))) (decide_eq_false (by omega)) |>.m 10 false (b := (decide (c.no = 4))) (decide_eq_false (by omega)) |>.m 11 false (b := (decide (c.no = 5))) (decide_eq_false (by omega)) |>.s [(vt 0)] (vt 12) (eventF_ok c.no); iteE h (fun h5 h => have H := H.m 12 true h5; H.e [] h) (fun h5 h => have H := H.m 12 false (bF h5); H.e [] h)))) (fun h2 h => have H := H.t 9 [.bool (decide (c.no = 3))] |>.r [(.bin .eql (cT 0) (cI 3), (vt 8))] |>.m 7 false (decide_eq_false h2); iteE h (fun h3 h => have H := H.t 10 [.bool (decide (e = 0))] |>.r [(.bin .eql (cT 3) (cI 0), (vt 9))] |>.m 8 true (decide_eq_true h3); iteE h (fun h4 h => have H := H.m 9 true (decide_eq_true h4); H.e [] h) (fun h4 h => have H := H.t 11 [.bool (decide (e = 4))] |>.r [(.bin .eql (cT 3) (cI 4), (vt 10))] |>.m 9 false (decide_eq_false h4); iteE h (fun h5 h => have H := H.m 10 true (decide_eq_true h5); H.e [] h) (fun h5 h => have H := H.t 14 [.bool (decide (c.no = 4)), .bool (decide (c.no = 5)), .bool (eventF c.no)] |>.r [(.bin .eql (cT 0) (cI 4), (vt 11)), (.bin .eql (cT 0) (cI 5), (vt 12))] |>.m 10 false (decide_eq_false h5) |>.m 11 false (b := (decide (c.no = 4))) (decide_eq_false (by omega)) |>.m 12 false (b := (decide (c.no = 5))) (decide_eq_false (by omega)) |>.s [(vt 0)] (vt 13) (eventF_ok c.no); iteE h (fun h6 h => have H := H.m 13 true h6; H.e [] h) (fun h6 h => have H := H.m 13 false (bF h6); H.e [] h)))) (fun h3 h => have H := H.t 10 [.bool (decide (c.no = 4))] |>.r [(.bin .eql (cT 0) (cI 4), (vt 9))] |>.m 8 false (decide_eq_false h3); iteE h (fun h4 h => have H := H.t 11 [.bool (decide (e = 0))] |>.r [(.bin .eql (cT 3) (cI 0), (vt 10))] |>.m 9 true (decide_eq_true h4); iteE h (fun h5 h => have H := H.m 10 true (decide_eq_true h5); H.e [] h) (fun h5 h => have H := H.m 10 false (decide_eq_false h5); iteE h (fun h6 h => have H := H.m 4 true (decide_eq_true h6); H.e [] h) (fun h6 h => have H := H.t 13 [.bool (decide (c.no = 5)), .bool (eventF c.no)] |>.r [(.bin .eql (cT 0) (cI 5), (vt 11))] |>.m 4 false (decide_eq_false h6) |>.m 11 false (b := (decide (c.no = 5))) (decide_eq_false (by omega)) |>.s [(vt 0)] (vt 12) (eventF_ok c.no); iteE h (fun h7 h => have H := H.m 12 true h7; H.e [] h) (fun h7 h => have H := H.m 12 false (bF h7); H.e [] h)))) (fun h4 h => have H := H.t 11 [.bool (decide (c.no = 5))] |>.r [(.bin .eql (cT 0) (cI 5), (vt 10))] |>.m 9 false (decide_eq_false h4); iteE h (fun h5 h => have H := H.m 10 true (decide_eq_true h5); iteE h (fun h6 h => have H := H.m 4 true (decide_eq_true h6); H.e [] h) (fun h6 h => have H := H.t 12 [.bool (decide (e = 0))] |>.r [(.bin .eql (cT 3) (cI 0), (vt 11))] |>.m 4 false (decide_eq_false h6); iteE h (fun h7 h => have H := H.m 11 true (decide_eq_true h7); H.e [] h) (fun h7 h => have H := H.t 13 [.bool (eventF c.no)] |>.m 11 false (decide_eq_false h7) |>.s [(vt 0)] (vt 12) (eventF_ok c.no); iteE h (fun h8 h => have H := H.m 12 true h8; H.e [] h) (fun h8 h => have H := H.m 12 false (bF h8); H.e [] h)))) (fun h5 h => have H := H.t 12 [.bool (eventF c.no)] |>.m 10 false (decide_eq_false h5) |>.s [(vt 0)] (vt 11) (eventF_ok c.no); iteE h (fun h6 h => have H := H.t 13 [.bool (decide (e = 0))] |>.r [(.bin .eql (cT 3) (cI 0), (vt 12))] |>.m 11 true h6; iteE h (fun h7 h => have H := H.t 14 [.int .i64 (w64 (4 + c.no))] |>.r [(.bin .add (cI 4) (cT 0), (vt 13))] |>.m 12 true (decide_eq_true h7); H.e [] h) (fun h7 h => have H := H.m 12 false (decide_eq_false h7); H.e [] h)) (fun h6 h => have H := H.m 11 false (bF h6); H.e [] h))))))))

def qkindC (c : Cl) (e : Int) : Option AV :=
  letB (ofF c) fun x0 =>
  if e = 0 then
    some (.int .i64 x0.1.well)
  else
    if e = 3 then
      some (.int .i64 x0.1.none)
    else
      if e = 4 then
        some (.int .i64 x0.1.had)
      else
        some (.int .i64 0)
def qkindCW : List AV := [(.agg [(vt 0), (vt 1), (vt 2)]), (vt 3)]
def qkindCV (c : Cl) (e : Int) (σ : Nat → Nat) : Val := (valL ([.int .i64 c.no, .int .i64 c.a, .int .i64 c.b, .int .i64 e]) ([]) [] σ 0)
def qkindCX (c : Cl) (e : Int) (_σ : Nat → Nat) : List AV := [(.agg [(.int .i64 c.no), (.int .i64 c.a), (.int .i64 c.b)]), (.int .i64 e)]
def qkindCY (_c : Cl) (_e : Int) (_σ : Nat → Nat) : List Blk := []
theorem qkindCE (c : Cl) (e : Int) (σ : Nat → Nat) : qkindCW.map (gm (qkindCV c e σ)) = qkindCX c e σ := by kernel_rfl
theorem qkindCG (c : Cl) (e : Int) (σ : Nat → Nat) : ([] : List Blk).map (gB (qkindCV c e σ)) = qkindCY c e σ := by kernel_rfl
theorem qkindC_ok (c : Cl) (e : Int) {r0 : AV} (h : qkindC c e = some r0) : Spec FF 15 [(.agg [(.int .i64 c.no), (.int .i64 c.a), (.int .i64 c.b)]), (.int .i64 e)] r0 := by
  unfold qkindC at h
  have hσ : ∀ i j : Nat, (fun i : Nat => i) i = (fun i : Nat => i) j → i = j := fun _ _ e => e
  exact spec_begin (ρ := qkindCV c e (fun i => i)) (xs := qkindCW) (by kernel_rfl) rfl rfl (by kernel_rfl) (fun z0 S => have H := Tok.start hσ S 0 4 0 0 ([.int .i64 c.no, .int .i64 c.a, .int .i64 c.b, .int .i64 e]) ([]) [] (.n) .n (qkindCE c e _) (qkindCG c e _); letE h (fun x0 h0 h => have H := H.t 13 [.str x0.1.w, .int .i64 x0.1.op, .int .i64 x0.1.most, .bool x0.1.value, .int .i64 x0.1.well, .int .i64 x0.1.none, .int .i64 x0.1.had, .bool x0.2, .bool (decide (e = 0))] |>.r [(.bin .eql (cT 3) (cI 0), (vt 12))] |>.s [(.agg [(vt 0), (vt 1), (vt 2)])] (.tup [(.agg (vT 4 7)), (vt 11)]) (of_ok c h0); iteE h (fun h1 h => have H := H.m 12 true (decide_eq_true h1); H.e [] h) (fun h1 h => have H := H.t 14 [.bool (decide (e = 3))] |>.r [(.bin .eql (cT 3) (cI 3), (vt 13))] |>.m 12 false (decide_eq_false h1); iteE h (fun h2 h => have H := H.m 13 true (decide_eq_true h2); H.e [] h) (fun h2 h => have H := H.t 15 [.bool (decide (e = 4))] |>.r [(.bin .eql (cT 3) (cI 4), (vt 14))] |>.m 13 false (decide_eq_false h2); iteE h (fun h3 h => have H := H.m 14 true (decide_eq_true h3); H.e [] h) (fun h3 h => have H := H.m 14 false (decide_eq_false h3); H.e [] h)))))

def qdecC (c : Cl) (t : Int) (id : Int) : Option AV :=
  letB (ofF c) fun x0 =>
  if (!x0.2) = true then
    some (.tup [(.int .i64 0), (.agg [(.int .i64 0), (.int .i64 0), (.int .i64 0)]), (.int .i64 1)])
  else
    if c.no = 0 then
      some (.tup [(.int .i64 x0.1.op), (.agg [(.int .i64 c.a), (.int .i64 c.b), (.int .i64 id)]), (.int .i64 0)])
    else
      if c.no = 1 then
        some (.tup [(.int .i64 x0.1.op), (.agg [(.int .i64 c.a), (.int .i64 t), (.int .i64 0)]), (.int .i64 0)])
      else
        if c.no = 9 then
          some (.tup [(.int .i64 x0.1.op), (.agg [(.int .i64 t), (.int .i64 id), (.int .i64 0)]), (.int .i64 0)])
        else
          if x0.1.value = true then
            some (.tup [(.int .i64 x0.1.op), (.agg [(.int .i64 c.a), (.int .i64 c.b), (.int .i64 0)]), (.int .i64 0)])
          else
            some (.tup [(.int .i64 x0.1.op), (.agg [(.int .i64 c.a), (.int .i64 0), (.int .i64 0)]), (.int .i64 0)])
def qdecCW : List AV := [(.agg [(vt 0), (vt 1), (vt 2)]), (vt 3), (vt 4)]
def qdecCV (c : Cl) (t : Int) (id : Int) (σ : Nat → Nat) : Val := (valL ([.int .i64 c.no, .int .i64 c.a, .int .i64 c.b, .int .i64 t, .int .i64 id]) ([]) [] σ 0)
def qdecCX (c : Cl) (t : Int) (id : Int) (_σ : Nat → Nat) : List AV := [(.agg [(.int .i64 c.no), (.int .i64 c.a), (.int .i64 c.b)]), (.int .i64 t), (.int .i64 id)]
def qdecCY (_c : Cl) (_t : Int) (_id : Int) (_σ : Nat → Nat) : List Blk := []
theorem qdecCE (c : Cl) (t : Int) (id : Int) (σ : Nat → Nat) : qdecCW.map (gm (qdecCV c t id σ)) = qdecCX c t id σ := by kernel_rfl
theorem qdecCG (c : Cl) (t : Int) (id : Int) (σ : Nat → Nat) : ([] : List Blk).map (gB (qdecCV c t id σ)) = qdecCY c t id σ := by kernel_rfl
theorem qdecC_ok (c : Cl) (t : Int) (id : Int) {r0 : AV} (h : qdecC c t id = some r0) : Spec FF 12 [(.agg [(.int .i64 c.no), (.int .i64 c.a), (.int .i64 c.b)]), (.int .i64 t), (.int .i64 id)] r0 := by
  unfold qdecC at h
  have hσ : ∀ i j : Nat, (fun i : Nat => i) i = (fun i : Nat => i) j → i = j := fun _ _ e => e
  exact spec_begin (ρ := qdecCV c t id (fun i => i)) (xs := qdecCW) (by kernel_rfl) rfl rfl (by kernel_rfl) (fun z0 S => have H := Tok.start hσ S 0 5 0 0 ([.int .i64 c.no, .int .i64 c.a, .int .i64 c.b, .int .i64 t, .int .i64 id]) ([]) [] (.n) .n (qdecCE c t id _) (qdecCG c t id _); letE h (fun x0 h0 h => have H := H.t 14 [.str x0.1.w, .int .i64 x0.1.op, .int .i64 x0.1.most, .bool x0.1.value, .int .i64 x0.1.well, .int .i64 x0.1.none, .int .i64 x0.1.had, .bool x0.2, .bool (!x0.2)] |>.r [(.un .not (cT 12), (vt 13))] |>.s [(.agg [(vt 0), (vt 1), (vt 2)])] (.tup [(.agg (vT 5 7)), (vt 12)]) (of_ok c h0); iteE h (fun h1 h => have H := H.m 13 true h1; H.e [] h) (fun h1 h => have H := H.t 15 [.bool (decide (c.no = 0))] |>.r [(.bin .eql (cT 0) (cI 0), (vt 14))] |>.m 13 false (bF h1); iteE h (fun h2 h => have H := H.m 14 true (decide_eq_true h2); H.e [] h) (fun h2 h => have H := H.t 16 [.bool (decide (c.no = 1))] |>.r [(.bin .eql (cT 0) (cI 1), (vt 15))] |>.m 14 false (decide_eq_false h2); iteE h (fun h3 h => have H := H.m 15 true (decide_eq_true h3); H.e [] h) (fun h3 h => have H := H.t 17 [.bool (decide (c.no = 9))] |>.r [(.bin .eql (cT 0) (cI 9), (vt 16))] |>.m 15 false (decide_eq_false h3); iteE h (fun h4 h => have H := H.m 16 true (decide_eq_true h4); H.e [] h) (fun h4 h => have H := H.m 16 false (decide_eq_false h4); iteE h (fun h5 h => have H := H.m 8 true h5; H.e [] h) (fun h5 h => have H := H.m 8 false (bF h5); H.e [] h)))))))

end Go.Proofs.Hz
open Go Go.Proofs
namespace Go.Proofs.Hz
theorem bool_leaf {P : Prop} [Decidable P] {b : Bool} (h : b = true ↔ P) : some (AV.bool b) = some (AV.bool (decide P)) := by
  congr 2
  rw [Bool.eq_iff_iff, h, decide_eq_true_eq]
theorem qmay_eq (c : Cl) : qmay c = some (.bool (mayF c)) := by
  have e1 : ∀ n, (portF n = true) = (0 ≤ n ∧ n ≤ 2) := fun n => by simp [portF]
  have e2 : ∀ n, (nameF n = true) = (3 ≤ n ∧ n ≤ 5) := fun n => by simp [nameF]
  have e3 : ∀ n, (eventF n = true) = (6 ≤ n ∧ n ≤ 8) := fun n => by simp [eventF]
  unfold qmay mayF
  simp only [e1, e2, e3]
  (repeat' split) <;> first | (exfalso; omega) | rfl | (refine bool_leaf ?_; simp only [decide_eq_true_eq, Bool.false_eq_true, false_iff]; omega)
theorem qkindR_eq (c : Cl) (e : Int) : qkindR c e = some (.int .i64 (kindF c.no e)) := by
  have e3 : ∀ n, (eventF n = true) = (6 ≤ n ∧ n ≤ 8) := fun n => by simp [eventF]
  have hw : 6 ≤ c.no ∧ c.no ≤ 8 → w64 (4 + c.no) = 4 + c.no := fun h => by unfold w64 IntKind.wrap; simp [IntKind.signed, IntKind.bits]; omega
  unfold qkindR kindF
  simp only [e3]
  (repeat' split) <;> first | (exfalso; omega) | rfl | (rw [hw (by omega)])
theorem qkindC_eq (c : Cl) (e : Int) : qkindC c e = some (.int .i64 (kindF c.no e)) := by
  have out : ∀ {a b d : Int}, (kdOf c.no).well = a → (kdOf c.no).none = b → (kdOf c.no).had = d → qkindC c e = some (.int .i64 (if e = 0 then a else if e = 3 then b else if e = 4 then d else 0)) := fun h1 h2 h3 => by
    unfold qkindC letB ofF
    simp only [h1, h2, h3]
    (repeat' split) <;> rfl
  rcases kd_cases c.no with h | h | h | h | h | h | h | h | h | h | h
  case inr.inr.inr.inr.inr.inr.inr.inr.inr.inr =>
    have hk := kd_none h
    rw [out (a := 0) (b := 0) (d := 0) (by rw [hk]) (by rw [hk]) (by rw [hk])]
    unfold kindF
    (repeat' split) <;> first | rfl | (exfalso; omega)
  all_goals
    rw [out (by rw [h]) (by rw [h]) (by rw [h])]
    unfold kindF
    rw [h]
    (repeat' split) <;> first | rfl | (exfalso; omega)
theorem qdecC_eq (c : Cl) (t id : Int) : qdecC c t id = some (.tup [.int .i64 (decOp c), .agg [.int .i64 (decR c t id 0), .int .i64 (decR c t id 1), .int .i64 (decR c t id 2)], .int .i64 (decE c)]) := by
  have hr : ∀ i, decR c t id i = if mayF c then (if c.no = 0 then [c.a, c.b, id].getD i 0 else if c.no = 1 then [c.a, t, 0].getD i 0 else if c.no = 9 then [t, id, 0].getD i 0 else if c.no = 3 then [c.a, c.b, 0].getD i 0 else [c.a, 0, 0].getD i 0) else 0 := fun i => rfl
  unfold qdecC letB ofF decOp decE
  simp only [hr]
  by_cases hm : mayF c = true
  · rw [if_neg (by simp [hm])]
    simp only [hm, if_true]
    by_cases h0 : c.no = 0
    · simp [h0]
    by_cases h1 : c.no = 1
    · simp [h1]
    by_cases h9 : c.no = 9
    · simp [h9]
    by_cases h3 : c.no = 3
    · simp [h3, kdOf]
    · have : (kdOf c.no).value = false := by unfold kdOf; (repeat' split) <;> first | rfl | (exfalso; omega)
      simp [h0, h1, h9, h3, this]
  · rw [if_pos (by simp [hm])]
    simp [hm]
theorem mayF_ok (c : Cl) : Spec FF 14 [c.av] (.bool (mayF c)) := qmay_ok c (qmay_eq c)
theorem kindR_ok (c : Cl) (e : Int) : Spec FF 16 [c.av, .int .i64 e] (.int .i64 (kindF c.no e)) := qkindR_ok c e (qkindR_eq c e)
theorem kindC_ok (c : Cl) (e : Int) : Spec FF 15 [c.av, .int .i64 e] (.int .i64 (kindF c.no e)) := qkindC_ok c e (qkindC_eq c e)
theorem decC_ok (c : Cl) (t id : Int) : Spec FF 12 [c.av, .int .i64 t, .int .i64 id] (.tup [.int .i64 (decOp c), .agg [.int .i64 (decR c t id 0), .int .i64 (decR c t id 1), .int .i64 (decR c t id 2)], .int .i64 (decE c)]) := qdecC_ok c t id (qdecC_eq c t id)
end Go.Proofs.Hz
