/-
  Chapter 15: what is printed is parsed, whole; what is parsed is printed so; two rows one behind the other are the two texts.
  Conditions: none.
-/
import Derived.Test.YtkkhoflfhonlgaaDoorWr
import Derived.Test.YtkkhoflfhonlgaaDoorWh
import Derived.Test.YtkkhoflfhonlgaaDoorWs
open Go Go.Proofs
namespace Go.Proofs.Hz
def qBack (l : List Cl) (_bl : Bool) (m : List Cl) (_bm : Bool) (s : List UInt8) : Option AV :=
  if (List.length l : Int) > 30 then
    some (.bool true)
  else
    if (List.length m : Int) > 30 then
      some (.bool true)
    else
      if (List.length s : Int) > 500 then
        some (.bool true)
      else
        if List.length s ≤ 1000000 then letB (parseF s) fun x4 =>
        if x4.2.2 = 0 then
          if (x4.2.1 : Int) = (List.length s : Int) then
            if okP x4.1 = true then if (!((printF x4.1) == s)) = true then
              none
            else
              if List.length l ≤ 1000000 then if (!(writtenF l)) = true then
                some (.bool true)
              else
                if List.length m ≤ 1000000 then if (!(writtenF m)) = true then
                  some (.bool true)
                else
                  if okP l = true then if List.length (printF l) ≤ 1000000 then letB (parseF (printF l)) fun x15 =>
                  if l = [] then
                    if m = [] then
                      if okP ([] : List Cl) = true then if x15.2.2 = 0 then
                        if (x15.2.1 : Int) = (List.length (printF l) : Int) then
                          if List.length x15.1 ≤ 1000000 then if (eqC x15.1 l) = true then
                            if okP m = true then if List.length (printF l) + List.length (printF m) ≤ 140737488355328 then some (.bool ((printF ([] : List Cl)) == ((printF l) ++ (printF m)))) else none else none
                          else
                            none else none
                        else
                          none
                      else
                        none else none
                    else
                      if (List.length ([] : List Cl) + List.length m) * 24 ≤ roomB ∧ List.length ([] : List Cl) + List.length m ≤ roomB then if okP m = true then if x15.2.2 = 0 then
                        if (x15.2.1 : Int) = (List.length (printF l) : Int) then
                          if List.length x15.1 ≤ 1000000 then if (eqC x15.1 l) = true then
                            if List.length (printF l) + List.length (printF m) ≤ 140737488355328 then some (.bool ((printF m) == ((printF l) ++ (printF m)))) else none
                          else
                            none else none
                        else
                          none
                      else
                        none else none else none
                  else
                    if (List.length ([] : List Cl) + List.length l) * 24 ≤ roomB ∧ List.length ([] : List Cl) + List.length l ≤ roomB then if (List.length l + List.length m) * 24 ≤ roomB ∧ List.length l + List.length m ≤ roomB then if okP (l ++ m) = true then if x15.2.2 = 0 then
                      if (x15.2.1 : Int) = (List.length (printF l) : Int) then
                        if List.length x15.1 ≤ 1000000 then if (eqC x15.1 l) = true then
                          if okP m = true then if List.length (printF l) + List.length (printF m) ≤ 140737488355328 then some (.bool ((printF (l ++ m)) == ((printF l) ++ (printF m)))) else none else none
                        else
                          none else none
                      else
                        none
                    else
                      none else none else none else none else none else none else none else none else none
          else
            none
        else
          if (List.length x4.1 : Int) > 0 then
            none
          else
            if (x4.2.1 : Int) < 0 then
              none
            else
              if (x4.2.1 : Int) > (List.length s : Int) then
                none
              else
                if List.length l ≤ 1000000 then if (!(writtenF l)) = true then
                  some (.bool true)
                else
                  if List.length m ≤ 1000000 then if (!(writtenF m)) = true then
                    some (.bool true)
                  else
                    if okP l = true then if List.length (printF l) ≤ 1000000 then letB (parseF (printF l)) fun x15 =>
                    if l = [] then
                      if m = [] then
                        if okP ([] : List Cl) = true then if x15.2.2 = 0 then
                          if (x15.2.1 : Int) = (List.length (printF l) : Int) then
                            if List.length x15.1 ≤ 1000000 then if (eqC x15.1 l) = true then
                              if okP m = true then if List.length (printF l) + List.length (printF m) ≤ 140737488355328 then some (.bool ((printF ([] : List Cl)) == ((printF l) ++ (printF m)))) else none else none
                            else
                              none else none
                          else
                            none
                        else
                          none else none
                      else
                        if (List.length ([] : List Cl) + List.length m) * 24 ≤ roomB ∧ List.length ([] : List Cl) + List.length m ≤ roomB then if okP m = true then if x15.2.2 = 0 then
                          if (x15.2.1 : Int) = (List.length (printF l) : Int) then
                            if List.length x15.1 ≤ 1000000 then if (eqC x15.1 l) = true then
                              if List.length (printF l) + List.length (printF m) ≤ 140737488355328 then some (.bool ((printF m) == ((printF l) ++ (printF m)))) else none
                            else
                              none else none
                          else
                            none
                        else
                          none else none else none
                    else
                      if (List.length ([] : List Cl) + List.length l) * 24 ≤ roomB ∧ List.length ([] : List Cl) + List.length l ≤ roomB then if (List.length l + List.length m) * 24 ≤ roomB ∧ List.length l + List.length m ≤ roomB then if okP (l ++ m) = true then if x15.2.2 = 0 then
                        if (x15.2.1 : Int) = (List.length (printF l) : Int) then
                          if List.length x15.1 ≤ 1000000 then if (eqC x15.1 l) = true then
                            if okP m = true then if List.length (printF l) + List.length (printF m) ≤ 140737488355328 then some (.bool ((printF (l ++ m)) == ((printF l) ++ (printF m)))) else none else none
                          else
                            none else none
                        else
                          none
                      else
                        none else none else none else none else none else none else none else none else none
def qBackW : List AV := [(vf 0), (vf 1), (vt 0)]
def qBackV (l : List Cl) (bl : Bool) (m : List Cl) (bm : Bool) (s : List UInt8) (σ : Nat → Nat) : Val := (valL ([.str s]) ([.im (List.map eC l) bl, .im (List.map eC m) bm]) [] σ 0)
def qBackX (l : List Cl) (bl : Bool) (m : List Cl) (bm : Bool) (s : List UInt8) (_σ : Nat → Nat) : List AV := [(.im (List.map eC l) bl), (.im (List.map eC m) bm), (.str s)]
def qBackY (_l : List Cl) (_bl : Bool) (_m : List Cl) (_bm : Bool) (_s : List UInt8) (_σ : Nat → Nat) : List Blk := []
theorem qBackE (l : List Cl) (bl : Bool) (m : List Cl) (bm : Bool) (s : List UInt8) (σ : Nat → Nat) : qBackW.map (gm (qBackV l bl m bm s σ)) = qBackX l bl m bm s σ := by kernel_rfl
theorem qBackG (l : List Cl) (bl : Bool) (m : List Cl) (bm : Bool) (s : List UInt8) (σ : Nat → Nat) : ([] : List Blk).map (gB (qBackV l bl m bm s σ)) = qBackY l bl m bm s σ := by kernel_rfl
set_option maxHeartbeats 10000000 in
theorem qBack_ok (l : List Cl) (bl : Bool) (m : List Cl) (bm : Bool) (s : List UInt8) {r0 : AV} (h : qBack l bl m bm s = some r0) : Spec FF 5 [(.im (List.map eC l) bl), (.im (List.map eC m) bm), (.str s)] r0 := by
  unfold qBack at h
  have hσ : ∀ i j : Nat, (fun i : Nat => i) i = (fun i : Nat => i) j → i = j := fun _ _ e => e
  exact spec_begin (ρ := qBackV l bl m bm s (fun i => i)) (xs := qBackW) (by kernel_rfl) rfl rfl (by kernel_rfl) (fun z0 S => have H := Tok.start hσ S 0 1 2 0 ([.str s]) ([.im (List.map eC l) bl, .im (List.map eC m) bm]) [] (.c (OkF.im eC_ok _ _) <| .c (OkF.im eC_ok _ _) <| .n) .n (qBackE l bl m bm s _) (qBackG l bl m bm s _); have H := H.t 3 [.int .i64 (List.length l : Int), .bool (decide ((List.length l : Int) > 30))] |>.r [(.bin .gtr (cT 1) (cI 30), (vt 2))] |>.s [] (.bool true) shown_ok |>.c (p := (.len 0 (cF 0), (vt 1))) (fun _ _ _ => fLen (e := eC) (l := l) (b := bl) (by kernel_rfl) (by kernel_rfl)); iteE h (fun h0 h => have H := H.m 2 true (decide_eq_true h0); H.e [] h) (fun h0 h => have H := H.t 5 [.int .i64 (List.length m : Int), .bool (decide ((List.length m : Int) > 30))] |>.r [(.bin .gtr (cT 3) (cI 30), (vt 4))] |>.m 2 false (decide_eq_false h0) |>.c (p := (.len 0 (cF 1), (vt 3))) (fun _ _ _ => fLen (e := eC) (l := m) (b := bm) (by kernel_rfl) (by kernel_rfl)); iteE h (fun h1 h => have H := H.m 4 true (decide_eq_true h1); H.e [] h) (fun h1 h => have H := H.t 7 [.int .i64 (List.length s : Int), .bool (decide ((List.length s : Int) > 500))] |>.r [(.len 1 (cT 0), (vt 5)), (.bin .gtr (cT 5) (cI 500), (vt 6))] |>.m 4 false (decide_eq_false h1); iteE h (fun h2 h => have H := H.m 6 true (decide_eq_true h2); H.e [] h) (fun h2 h => have H := H.m 6 false (decide_eq_false h2); reqE h (fun h3 h => letE h (fun x4 h4 h => have H := H.t 10 [.int .i64 (x4.2.1 : Int), .int .i64 x4.2.2, .bool (decide (x4.2.2 = 0))] |>.f 3 [.im (List.map eC x4.1) (List.isEmpty x4.1)] (.c (OkF.im eC_ok _ _) <| .n) |>.r [(.bin .eql (cT 8) (cI 0), (vt 9))] |>.s [(vt 0)] (.tup [(vf 2), (vt 7), (vt 8)]) (parse_ok1 s h3 h4); iteE h (fun h5 h => have H := H.t 11 [.bool (!decide ((x4.2.1 : Int) = (List.length s : Int)))] |>.r [(.bin .neq (cT 7) (cT 5), (vt 10))] |>.m 9 true (decide_eq_true h5); iteE h (fun h6 h => have H := H.m 10 false (nT h6); reqE h (fun h7 h => have H := H.t 13 [.str (printF x4.1), .bool (!((printF x4.1) == s))] |>.r [(.bin .neq (cT 11) (cT 0), (vt 12))] |>.s [(vf 2)] (vt 11) (print_ok x4.1 (List.isEmpty x4.1) h7); iteE h (fun _ h => nomatch h) (fun h8 h => have H := H.t 14 [.bool (!decide (x4.2.2 = 0))] |>.r [(.bin .neq (cT 8) (cI 0), (vt 13))] |>.m 12 false (bF h8) |>.m 13 false (b := (!decide (x4.2.2 = 0))) (nT (by omega)); reqE h (fun h9 h => have H := H.t 16 [.bool (writtenF l), .bool (!(writtenF l))] |>.r [(.un .not (cT 14), (vt 15))] |>.s [(vf 0)] (vt 14) (written_ok l bl h9); iteE h (fun h10 h => have H := H.m 15 true h10; H.e [] h) (fun h10 h => have H := H.m 15 false (bF h10); reqE h (fun h11 h => have H := H.t 18 [.bool (writtenF m), .bool (!(writtenF m))] |>.r [(.un .not (cT 16), (vt 17))] |>.s [(vf 1)] (vt 16) (written_ok m bm h11); iteE h (fun h12 h => have H := H.m 17 true h12; H.e [] h) (fun h12 h => have H := H.m 17 false (bF h12); reqE h (fun h13 h => have H := H.t 19 [.str (printF l)] |>.s [(vf 0)] (vt 18) (print_ok l bl h13); reqE h (fun h14 h => letE h (fun x15 h15 h => have H := H.t 21 [.int .i64 (x15.2.1 : Int), .int .i64 x15.2.2] |>.f 4 [.im (List.map eC x15.1) (List.isEmpty x15.1)] (.c (OkF.im eC_ok _ _) <| .n) |>.s [(vt 18)] (.tup [(vf 3), (vt 19), (vt 20)]) (parse_ok1 (printF l) h14 h15); iteE h (fun h16 h => have H := H.c (p := (.app 23 3 24 (.c (.sl 0 0 0 3 (some 0))) (cF 0), (.sl 0 0 0 3 (some 0)))) (fun _ _ _ => fApp0s (x := (vf 0)) (c := bl) (show gm _ _ = _ from (show gm _ _ = .im (List.map eC l) bl from (by kernel_rfl)).trans (by rw [h16]; rfl)) (by decide)); iteE h (fun h17 h => have H := H.c (p := (.app 23 3 24 (.c (.sl 0 0 0 3 (some 0))) (cF 1), (.sl 0 0 0 3 (some 0)))) (fun _ _ _ => fApp0s (x := (vf 1)) (c := bm) (show gm _ _ = _ from (show gm _ _ = .im (List.map eC m) bm from (by kernel_rfl)).trans (by rw [h17]; rfl)) (by decide)); reqE h (fun h18 h => have H := H.t 23 [.str (printF ([] : List Cl)), .bool (decide (x15.2.2 = 0))] |>.r [(.bin .eql (cT 20) (cI 0), (vt 22))] |>.s [(.im [] true)] (vt 21) (print_ok ([] : List Cl) true h18); iteE h (fun h19 h => have H := H.t 25 [.int .i64 (List.length (printF l) : Int), .bool (decide ((x15.2.1 : Int) = (List.length (printF l) : Int)))] |>.r [(.len 1 (cT 18), (vt 23)), (.bin .eql (cT 19) (cT 23), (vt 24))] |>.m 22 true (decide_eq_true h19); iteE h (fun h20 h => have H := H.m 24 true (decide_eq_true h20); reqE h (fun h21 h => have H := H.t 26 [.bool (eqC x15.1 l)] |>.s [(vf 3), (vf 0)] (vt 25) (sameR_ok x15.1 l (List.isEmpty x15.1) bl h21); iteE h (fun h22 h => have H := H.m 25 true h22; reqE h (fun h23 h => have H := H.t 27 [.str (printF m)] |>.s [(vf 1)] (vt 26) (print_ok m bm h23); reqE h (fun h24 h => have H := H.t 29 [.str ((printF l) ++ (printF m)), .bool ((printF ([] : List Cl)) == ((printF l) ++ (printF m)))] |>.r [(.bin .eql (cT 21) (cT 27), (vt 28))] |>.c (p := (.bin .add (cT 18) (cT 26), (vt 27))) (fun _ _ _ => fCat (a := (printF l)) (b := (printF m)) (by kernel_rfl) (by kernel_rfl) h24 (by kernel_rfl)); H.e [] h))) (fun _ h => nomatch h))) (fun _ h => nomatch h)) (fun _ h => nomatch h))) (fun h17 h => reqE h (fun h18 h => have H := H.o 0 (3, List.map eC m) (.own eC_ok _) |>.a ⟨false, 3, 24, (.im [] true), (vf 1), 1000003⟩ (fun _ _ _ => fApp (e := eC) (l := ([] : List Cl)) (m := m) (cb := true) (cx := bm) (by kernel_rfl) (by kernel_rfl) (by kernel_rfl) h18 (.inr ⟨rfl, h17⟩) (by decide) (by decide) (by decide)); reqE h (fun h19 h => have H := H.t 23 [.str (printF m), .bool (decide (x15.2.2 = 0))] |>.r [(.bin .eql (cT 20) (cI 0), (vt 22))] |>.s [(vf 1000003)] (vt 21) (print_ok m false h19); iteE h (fun h20 h => have H := H.t 25 [.int .i64 (List.length (printF l) : Int), .bool (decide ((x15.2.1 : Int) = (List.length (printF l) : Int)))] |>.r [(.len 1 (cT 18), (vt 23)), (.bin .eql (cT 19) (cT 23), (vt 24))] |>.m 22 true (decide_eq_true h20); iteE h (fun h21 h => have H := H.m 24 true (decide_eq_true h21); reqE h (fun h22 h => have H := H.t 26 [.bool (eqC x15.1 l)] |>.s [(vf 3), (vf 0)] (vt 25) (sameR_ok x15.1 l (List.isEmpty x15.1) bl h22); iteE h (fun h23 h => have H := H.t 27 [.str (printF m)] |>.m 25 true h23 |>.s [(vf 1)] (vt 26) (print_ok m bm h19); reqE h (fun h24 h => have H := H.t 29 [.str ((printF l) ++ (printF m)), .bool ((printF m) == ((printF l) ++ (printF m)))] |>.r [(.bin .eql (cT 21) (cT 27), (vt 28))] |>.c (p := (.bin .add (cT 18) (cT 26), (vt 27))) (fun _ _ _ => fCat (a := (printF l)) (b := (printF m)) (by kernel_rfl) (by kernel_rfl) h24 (by kernel_rfl)); H.e [] h)) (fun _ h => nomatch h))) (fun _ h => nomatch h)) (fun _ h => nomatch h))))) (fun h16 h => reqE h (fun h17 h => have H := H.o 0 (3, List.map eC l) (.own eC_ok _) |>.a ⟨false, 3, 24, (.im [] true), (vf 0), 1000003⟩ (fun _ _ _ => fApp (e := eC) (l := ([] : List Cl)) (m := l) (cb := true) (cx := bl) (by kernel_rfl) (by kernel_rfl) (by kernel_rfl) h17 (.inr ⟨rfl, h16⟩) (by decide) (by decide) (by decide)); reqE h (fun h18 h => have H := H.o 1 (3, List.map eC (l ++ m)) (.own eC_ok _) |>.a ⟨true, 3, 24, (vf 1000003), (vf 1), 1001003⟩ (fun _ _ _ => fApp (e := eC) (l := l) (m := m) (cb := false) (cx := bm) (by kernel_rfl) (by kernel_rfl) (by kernel_rfl) h18 (.inl rfl) (by decide) (by decide) (by decide)); reqE h (fun h19 h => have H := H.t 23 [.str (printF (l ++ m)), .bool (decide (x15.2.2 = 0))] |>.r [(.bin .eql (cT 20) (cI 0), (vt 22))] |>.s [(vf 1001003)] (vt 21) (print_ok (l ++ m) false h19); iteE h (fun h20 h => have H := H.t 25 [.int .i64 (List.length (printF l) : Int), .bool (decide ((x15.2.1 : Int) = (List.length (printF l) : Int)))] |>.r [(.len 1 (cT 18), (vt 23)), (.bin .eql (cT 19) (cT 23), (vt 24))] |>.m 22 true (decide_eq_true h20); iteE h (fun h21 h => have H := H.m 24 true (decide_eq_true h21); reqE h (fun h22 h => have H := H.t 26 [.bool (eqC x15.1 l)] |>.s [(vf 3), (vf 0)] (vt 25) (sameR_ok x15.1 l (List.isEmpty x15.1) bl h22); iteE h (fun h23 h => have H := H.m 25 true h23; reqE h (fun h24 h => have H := H.t 27 [.str (printF m)] |>.s [(vf 1)] (vt 26) (print_ok m bm h24); reqE h (fun h25 h => have H := H.t 29 [.str ((printF l) ++ (printF m)), .bool ((printF (l ++ m)) == ((printF l) ++ (printF m)))] |>.r [(.bin .eql (cT 21) (cT 27), (vt 28))] |>.c (p := (.bin .add (cT 18) (cT 26), (vt 27))) (fun _ _ _ => fCat (a := (printF l)) (b := (printF m)) (by kernel_rfl) (by kernel_rfl) h25 (by kernel_rfl)); H.e [] h))) (fun _ h => nomatch h))) (fun _ h => nomatch h)) (fun _ h => nomatch h))))))))))))))) (fun _ h => nomatch h)) (fun h5 h => have H := H.t 13 [.bool (!decide (x4.2.2 = 0)), .int .i64 (List.length x4.1 : Int), .bool (decide ((List.length x4.1 : Int) > 0))] |>.r [(.bin .neq (cT 8) (cI 0), (vt 10)), (.bin .gtr (cT 11) (cI 0), (vt 12))] |>.m 9 false (decide_eq_false h5) |>.m 10 true (b := (!decide (x4.2.2 = 0))) (nF (by omega)) |>.c (p := (.len 0 (cF 2), (vt 11))) (fun _ _ _ => fLen (e := eC) (l := x4.1) (b := (List.isEmpty x4.1)) (by kernel_rfl) (by kernel_rfl)); iteE h (fun _ h => nomatch h) (fun h6 h => have H := H.t 14 [.bool (decide ((x4.2.1 : Int) < 0))] |>.r [(.bin .lss (cT 7) (cI 0), (vt 13))] |>.m 12 false (decide_eq_false h6); iteE h (fun _ h => nomatch h) (fun h7 h => have H := H.t 15 [.bool (decide ((x4.2.1 : Int) > (List.length s : Int)))] |>.r [(.bin .gtr (cT 7) (cT 5), (vt 14))] |>.m 13 false (decide_eq_false h7); iteE h (fun _ h => nomatch h) (fun h8 h => have H := H.m 14 false (decide_eq_false h8); reqE h (fun h9 h => have H := H.t 17 [.bool (writtenF l), .bool (!(writtenF l))] |>.r [(.un .not (cT 15), (vt 16))] |>.s [(vf 0)] (vt 15) (written_ok l bl h9); iteE h (fun h10 h => have H := H.m 16 true h10; H.e [] h) (fun h10 h => have H := H.m 16 false (bF h10); reqE h (fun h11 h => have H := H.t 19 [.bool (writtenF m), .bool (!(writtenF m))] |>.r [(.un .not (cT 17), (vt 18))] |>.s [(vf 1)] (vt 17) (written_ok m bm h11); iteE h (fun h12 h => have H := H.m 18 true h12; H.e [] h) (fun h12 h => have H := H.m 18 false (bF h12); reqE h (fun h13 h => have H := H.t 20 [.str (printF l)] |>.s [(vf 0)] (vt 19) (print_ok l bl h13); reqE h (fun h14 h => letE h (fun x15 h15 h => have H := H.t 22 [.int .i64 (x15.2.1 : Int), .int .i64 x15.2.2] |>.f 4 [.im (List.map eC x15.1) (List.isEmpty x15.1)] (.c (OkF.im eC_ok _ _) <| .n) |>.s [(vt 19)] (.tup [(vf 3), (vt 20), (vt 21)]) (parse_ok1 (printF l) h14 h15); iteE h (fun h16 h => have H := H.c (p := (.app 23 3 24 (.c (.sl 0 0 0 3 (some 0))) (cF 0), (.sl 0 0 0 3 (some 0)))) (fun _ _ _ => fApp0s (x := (vf 0)) (c := bl) (show gm _ _ = _ from (show gm _ _ = .im (List.map eC l) bl from (by kernel_rfl)).trans (by rw [h16]; rfl)) (by decide)); iteE h (fun h17 h => have H := H.c (p := (.app 23 3 24 (.c (.sl 0 0 0 3 (some 0))) (cF 1), (.sl 0 0 0 3 (some 0)))) (fun _ _ _ => fApp0s (x := (vf 1)) (c := bm) (show gm _ _ = _ from (show gm _ _ = .im (List.map eC m) bm from (by kernel_rfl)).trans (by rw [h17]; rfl)) (by decide)); reqE h (fun h18 h => have H := H.t 24 [.str (printF ([] : List Cl)), .bool (decide (x15.2.2 = 0))] |>.r [(.bin .eql (cT 21) (cI 0), (vt 23))] |>.s [(.im [] true)] (vt 22) (print_ok ([] : List Cl) true h18); iteE h (fun h19 h => have H := H.t 26 [.int .i64 (List.length (printF l) : Int), .bool (decide ((x15.2.1 : Int) = (List.length (printF l) : Int)))] |>.r [(.len 1 (cT 19), (vt 24)), (.bin .eql (cT 20) (cT 24), (vt 25))] |>.m 23 true (decide_eq_true h19); iteE h (fun h20 h => have H := H.m 25 true (decide_eq_true h20); reqE h (fun h21 h => have H := H.t 27 [.bool (eqC x15.1 l)] |>.s [(vf 3), (vf 0)] (vt 26) (sameR_ok x15.1 l (List.isEmpty x15.1) bl h21); iteE h (fun h22 h => have H := H.m 26 true h22; reqE h (fun h23 h => have H := H.t 28 [.str (printF m)] |>.s [(vf 1)] (vt 27) (print_ok m bm h23); reqE h (fun h24 h => have H := H.t 30 [.str ((printF l) ++ (printF m)), .bool ((printF ([] : List Cl)) == ((printF l) ++ (printF m)))] |>.r [(.bin .eql (cT 22) (cT 28), (vt 29))] |>.c (p := (.bin .add (cT 19) (cT 27), (vt 28))) (fun _ _ _ => fCat (a := (printF l)) (b := (printF m)) (by kernel_rfl) (by kernel_rfl) h24 (by kernel_rfl)); H.e [] h))) (fun _ h => nomatch h))) (fun _ h => nomatch h)) (fun _ h => nomatch h))) (fun h17 h => reqE h (fun h18 h => have H := H.o 0 (3, List.map eC m) (.own eC_ok _) |>.a ⟨false, 3, 24, (.im [] true), (vf 1), 1000003⟩ (fun _ _ _ => fApp (e := eC) (l := ([] : List Cl)) (m := m) (cb := true) (cx := bm) (by kernel_rfl) (by kernel_rfl) (by kernel_rfl) h18 (.inr ⟨rfl, h17⟩) (by decide) (by decide) (by decide)); reqE h (fun h19 h => have H := H.t 24 [.str (printF m), .bool (decide (x15.2.2 = 0))] |>.r [(.bin .eql (cT 21) (cI 0), (vt 23))] |>.s [(vf 1000003)] (vt 22) (print_ok m false h19); iteE h (fun h20 h => have H := H.t 26 [.int .i64 (List.length (printF l) : Int), .bool (decide ((x15.2.1 : Int) = (List.length (printF l) : Int)))] |>.r [(.len 1 (cT 19), (vt 24)), (.bin .eql (cT 20) (cT 24), (vt 25))] |>.m 23 true (decide_eq_true h20); iteE h (fun h21 h => have H := H.m 25 true (decide_eq_true h21); reqE h (fun h22 h => have H := H.t 27 [.bool (eqC x15.1 l)] |>.s [(vf 3), (vf 0)] (vt 26) (sameR_ok x15.1 l (List.isEmpty x15.1) bl h22); iteE h (fun h23 h => have H := H.t 28 [.str (printF m)] |>.m 26 true h23 |>.s [(vf 1)] (vt 27) (print_ok m bm h19); reqE h (fun h24 h => have H := H.t 30 [.str ((printF l) ++ (printF m)), .bool ((printF m) == ((printF l) ++ (printF m)))] |>.r [(.bin .eql (cT 22) (cT 28), (vt 29))] |>.c (p := (.bin .add (cT 19) (cT 27), (vt 28))) (fun _ _ _ => fCat (a := (printF l)) (b := (printF m)) (by kernel_rfl) (by kernel_rfl) h24 (by kernel_rfl)); H.e [] h)) (fun _ h => nomatch h))) (fun _ h => nomatch h)) (fun _ h => nomatch h))))) (fun h16 h => reqE h (fun h17 h => have H := H.o 0 (3, List.map eC l) (.own eC_ok _) |>.a ⟨false, 3, 24, (.im [] true), (vf 0), 1000003⟩ (fun _ _ _ => fApp (e := eC) (l := ([] : List Cl)) (m := l) (cb := true) (cx := bl) (by kernel_rfl) (by kernel_rfl) (by kernel_rfl) h17 (.inr ⟨rfl, h16⟩) (by decide) (by decide) (by decide)); reqE h (fun h18 h => have H := H.o 1 (3, List.map eC (l ++ m)) (.own eC_ok _) |>.a ⟨true, 3, 24, (vf 1000003), (vf 1), 1001003⟩ (fun _ _ _ => fApp (e := eC) (l := l) (m := m) (cb := false) (cx := bm) (by kernel_rfl) (by kernel_rfl) (by kernel_rfl) h18 (.inl rfl) (by decide) (by decide) (by decide)); reqE h (fun h19 h => have H := H.t 24 [.str (printF (l ++ m)), .bool (decide (x15.2.2 = 0))] |>.r [(.bin .eql (cT 21) (cI 0), (vt 23))] |>.s [(vf 1001003)] (vt 22) (print_ok (l ++ m) false h19); iteE h (fun h20 h => have H := H.t 26 [.int .i64 (List.length (printF l) : Int), .bool (decide ((x15.2.1 : Int) = (List.length (printF l) : Int)))] |>.r [(.len 1 (cT 19), (vt 24)), (.bin .eql (cT 20) (cT 24), (vt 25))] |>.m 23 true (decide_eq_true h20); iteE h (fun h21 h => have H := H.m 25 true (decide_eq_true h21); reqE h (fun h22 h => have H := H.t 27 [.bool (eqC x15.1 l)] |>.s [(vf 3), (vf 0)] (vt 26) (sameR_ok x15.1 l (List.isEmpty x15.1) bl h22); iteE h (fun h23 h => have H := H.m 26 true h23; reqE h (fun h24 h => have H := H.t 28 [.str (printF m)] |>.s [(vf 1)] (vt 27) (print_ok m bm h24); reqE h (fun h25 h => have H := H.t 30 [.str ((printF l) ++ (printF m)), .bool ((printF (l ++ m)) == ((printF l) ++ (printF m)))] |>.r [(.bin .eql (cT 22) (cT 28), (vt 29))] |>.c (p := (.bin .add (cT 19) (cT 27), (vt 28))) (fun _ _ _ => fCat (a := (printF l)) (b := (printF m)) (by kernel_rfl) (by kernel_rfl) h25 (by kernel_rfl)); H.e [] h))) (fun _ h => nomatch h))) (fun _ h => nomatch h)) (fun _ h => nomatch h))))))))))))))))))))))

end Go.Proofs.Hz
open Go Go.Proofs
namespace Go.Proofs.Hz
/-- The second half, as the law has it twice. -/
def backB (l m : List Cl) : Option AV :=
  if l.length ≤ 1000000 then if (!(writtenF l)) = true then some (.bool true) else
    if m.length ≤ 1000000 then if (!(writtenF m)) = true then some (.bool true) else
      if okP l = true then if (printF l).length ≤ 1000000 then letB (parseF (printF l)) fun x15 =>
        if l = [] then
          if m = [] then
            if okP ([] : List Cl) = true then if x15.2.2 = 0 then
              if (x15.2.1 : Int) = ((printF l).length : Int) then
                if x15.1.length ≤ 1000000 then if (eqC x15.1 l) = true then
                  if okP m = true then if (printF l).length + (printF m).length ≤ 140737488355328 then some (.bool ((printF ([] : List Cl)) == ((printF l) ++ (printF m)))) else none else none
                else none else none
              else none
            else none else none
          else
            if (List.length ([] : List Cl) + List.length m) * 24 ≤ roomB ∧ List.length ([] : List Cl) + List.length m ≤ roomB then if okP m = true then if x15.2.2 = 0 then
              if (x15.2.1 : Int) = ((printF l).length : Int) then
                if x15.1.length ≤ 1000000 then if (eqC x15.1 l) = true then
                  if (printF l).length + (printF m).length ≤ 140737488355328 then some (.bool ((printF m) == ((printF l) ++ (printF m)))) else none
                else none else none
              else none
            else none else none else none
        else
          if (List.length ([] : List Cl) + List.length l) * 24 ≤ roomB ∧ List.length ([] : List Cl) + List.length l ≤ roomB then if (List.length l + List.length m) * 24 ≤ roomB ∧ List.length l + List.length m ≤ roomB then if okP (l ++ m) = true then if x15.2.2 = 0 then
            if (x15.2.1 : Int) = ((printF l).length : Int) then
              if x15.1.length ≤ 1000000 then if (eqC x15.1 l) = true then
                if okP m = true then if (printF l).length + (printF m).length ≤ 140737488355328 then some (.bool ((printF (l ++ m)) == ((printF l) ++ (printF m)))) else none else none
              else none else none
            else none
          else none else none else none else none
      else none else none
    else none
  else none
theorem backB_eq {l m : List Cl} (h1 : l.length ≤ 30) (h2 : m.length ≤ 30) : backB l m = some (.bool true) := by
  unfold backB letB
  rw [if_pos (by omega)]
  by_cases h3 : writtenF l = true
  · rw [if_neg (by simp [h3]), if_pos (by omega)]
    by_cases h4 : writtenF m = true
    · have p1 := okP_written h3 (by omega)
      have p2 := okP_written h4 (by omega)
      have l1 := printF_le h3
      have l2 := printF_le h4
      have e3 : eqC l l = true := by simp [eqC]
      have hlm : writtenF (l ++ m) = true := by unfold writtenF at h3 h4 ⊢; rw [List.all_append, h3, h4]; rfl
      have p3 := okP_written hlm (by rw [List.length_append]; omega)
      rw [if_neg (by simp [h4]), if_pos p1, if_pos (by omega), parseF_print h3]
      simp only
      by_cases h5 : l = []
      · subst h5
        rw [if_pos rfl]
        by_cases h6 : m = []
        · subst h6
          rw [if_pos rfl, if_pos p1, if_pos trivial, if_pos trivial, if_pos (by omega), if_pos e3, if_pos p1, if_pos (by omega)]
          rfl
        · rw [if_neg h6, if_pos (by simp only [roomB, List.length_nil]; omega), if_pos p2, if_pos trivial, if_pos trivial, if_pos (by omega), if_pos e3, if_pos (by omega)]
          simp [printF]
      · rw [if_neg h5, if_pos (by simp only [roomB, List.length_nil]; omega), if_pos (by simp only [roomB]; omega), if_pos p3, if_pos trivial, if_pos trivial, if_pos (by omega), if_pos e3, if_pos p2, if_pos (by omega)]
        simp [printF_append]
    · rw [if_pos (by simp [h4])]
  · rw [if_pos (by simp [h3])]
theorem qBack_as (l : List Cl) (bl : Bool) (m : List Cl) (bm : Bool) (s : List UInt8) : qBack l bl m bm s =
    if (l.length : Int) > 30 then some (.bool true) else if (m.length : Int) > 30 then some (.bool true) else if (s.length : Int) > 500 then some (.bool true) else
    if s.length ≤ 1000000 then letB (parseF s) fun x4 =>
      if x4.2.2 = 0 then
        if (x4.2.1 : Int) = (s.length : Int) then
          if okP x4.1 = true then if (!((printF x4.1) == s)) = true then none else backB l m else none
        else none
      else if (x4.1.length : Int) > 0 then none else if (x4.2.1 : Int) < 0 then none else if (x4.2.1 : Int) > (s.length : Int) then none else backB l m
    else none := rfl
theorem qBack_eq (l : List Cl) (bl : Bool) (m : List Cl) (bm : Bool) (s : List UInt8) : qBack l bl m bm s = some (.bool true) := by
  rw [qBack_as]
  unfold letB
  by_cases h1 : (l.length : Int) > 30
  · rw [if_pos h1]
  by_cases h2 : (m.length : Int) > 30
  · rw [if_neg h1, if_pos h2]
  by_cases h3 : (s.length : Int) > 500
  · rw [if_neg h1, if_neg h2, if_pos h3]
  rw [if_neg h1, if_neg h2, if_neg h3, if_pos (by omega)]
  simp only
  rcases parseF_told s with ⟨t1, t2, t3, t4, t5⟩ | ⟨t1, t2, t3⟩
  · rw [if_pos t1, if_pos (by omega), if_pos (okP_written t4 (by omega)), if_neg (by simp [t3])]
    exact backB_eq (by omega) (by omega)
  · rw [if_neg (by omega), if_neg (by rw [t2]; simp), if_neg (by omega), if_neg (by omega)]
    exact backB_eq (by omega) (by omega)
theorem back_ok (l m : List Cl) (bl bm : Bool) (s : List UInt8) : Spec FF 5 [.im (l.map eC) bl, .im (m.map eC) bm, .str s] (.bool true) := qBack_ok l bl m bm s (qBack_eq l bl m bm s)
end Go.Proofs.Hz
