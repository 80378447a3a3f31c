/-
  Chapter 17: walks through functions (part e), written by a program of our own (wip/tools).
  Conditions: none.
-/
import Derived.Test.YtpidaficnfaedaaWc
open Go Go.Proofs
namespace Go.Proofs.Hz
def f35 (m : Md) (x : Ev) : Option AV :=
  if (!(belowF x.a 8)) = true then
    some (.tup [(Md.av m), (.bool false)])
  else
    if x.a = 0 then
      if x.kind = 1 then
        if (List.length (m.q 0).l + List.length [x.v]) * 8 ≤ roomB ∧ List.length (m.q 0).l + List.length [x.v] ≤ roomB then Option.bind (sentF m x.a ⟨((m.q 0).l ++ [x.v]), false⟩) fun x4 =>
        some (.tup [(Md.av x4), (.bool true)]) else none
      else
        if x.kind = 3 then
          some (.tup [(Md.av m), (.bool (decide ((List.length (m.q 0).l : Int) = 0)))])
        else
          if (List.length (m.q 0).l : Int) = 0 then
            some (.tup [(Md.av m), (.bool false)])
          else
            Option.bind ((m.q 0).l[Int.toNat 0]?) fun x5 =>
            if x5 = x.v then
              if 0 ≤ 1 ∧ 1 ≤ (List.length (m.q 0).l : Int) then Option.bind (sentF m x.a ⟨(List.drop (Int.toNat 1) (m.q 0).l), (m.q 0).c⟩) fun x8 =>
              some (.tup [(Md.av x8), (.bool true)]) else none
            else
              some (.tup [(Md.av m), (.bool false)])
    else
      if x.a = 1 then
        if x.kind = 1 then
          if (List.length (m.q 1).l + List.length [x.v]) * 8 ≤ roomB ∧ List.length (m.q 1).l + List.length [x.v] ≤ roomB then Option.bind (sentF m x.a ⟨((m.q 1).l ++ [x.v]), false⟩) fun x5 =>
          some (.tup [(Md.av x5), (.bool true)]) else none
        else
          if x.kind = 3 then
            some (.tup [(Md.av m), (.bool (decide ((List.length (m.q 1).l : Int) = 0)))])
          else
            if (List.length (m.q 1).l : Int) = 0 then
              some (.tup [(Md.av m), (.bool false)])
            else
              Option.bind ((m.q 1).l[Int.toNat 0]?) fun x6 =>
              if x6 = x.v then
                if 0 ≤ 1 ∧ 1 ≤ (List.length (m.q 1).l : Int) then Option.bind (sentF m x.a ⟨(List.drop (Int.toNat 1) (m.q 1).l), (m.q 1).c⟩) fun x9 =>
                some (.tup [(Md.av x9), (.bool true)]) else none
              else
                some (.tup [(Md.av m), (.bool false)])
      else
        if x.a = 2 then
          if x.kind = 1 then
            if (List.length (m.q 2).l + List.length [x.v]) * 8 ≤ roomB ∧ List.length (m.q 2).l + List.length [x.v] ≤ roomB then Option.bind (sentF m x.a ⟨((m.q 2).l ++ [x.v]), false⟩) fun x6 =>
            some (.tup [(Md.av x6), (.bool true)]) else none
          else
            if x.kind = 3 then
              some (.tup [(Md.av m), (.bool (decide ((List.length (m.q 2).l : Int) = 0)))])
            else
              if (List.length (m.q 2).l : Int) = 0 then
                some (.tup [(Md.av m), (.bool false)])
              else
                Option.bind ((m.q 2).l[Int.toNat 0]?) fun x7 =>
                if x7 = x.v then
                  if 0 ≤ 1 ∧ 1 ≤ (List.length (m.q 2).l : Int) then Option.bind (sentF m x.a ⟨(List.drop (Int.toNat 1) (m.q 2).l), (m.q 2).c⟩) fun x10 =>
                  some (.tup [(Md.av x10), (.bool true)]) else none
                else
                  some (.tup [(Md.av m), (.bool false)])
        else
          if x.a = 3 then
            if x.kind = 1 then
              if (List.length (m.q 3).l + List.length [x.v]) * 8 ≤ roomB ∧ List.length (m.q 3).l + List.length [x.v] ≤ roomB then Option.bind (sentF m x.a ⟨((m.q 3).l ++ [x.v]), false⟩) fun x7 =>
              some (.tup [(Md.av x7), (.bool true)]) else none
            else
              if x.kind = 3 then
                some (.tup [(Md.av m), (.bool (decide ((List.length (m.q 3).l : Int) = 0)))])
              else
                if (List.length (m.q 3).l : Int) = 0 then
                  some (.tup [(Md.av m), (.bool false)])
                else
                  Option.bind ((m.q 3).l[Int.toNat 0]?) fun x8 =>
                  if x8 = x.v then
                    if 0 ≤ 1 ∧ 1 ≤ (List.length (m.q 3).l : Int) then Option.bind (sentF m x.a ⟨(List.drop (Int.toNat 1) (m.q 3).l), (m.q 3).c⟩) fun x11 =>
                    some (.tup [(Md.av x11), (.bool true)]) else none
                  else
                    some (.tup [(Md.av m), (.bool false)])
          else
            if x.a = 4 then
              if x.kind = 1 then
                if (List.length (m.q 4).l + List.length [x.v]) * 8 ≤ roomB ∧ List.length (m.q 4).l + List.length [x.v] ≤ roomB then Option.bind (sentF m x.a ⟨((m.q 4).l ++ [x.v]), false⟩) fun x8 =>
                some (.tup [(Md.av x8), (.bool true)]) else none
              else
                if x.kind = 3 then
                  some (.tup [(Md.av m), (.bool (decide ((List.length (m.q 4).l : Int) = 0)))])
                else
                  if (List.length (m.q 4).l : Int) = 0 then
                    some (.tup [(Md.av m), (.bool false)])
                  else
                    Option.bind ((m.q 4).l[Int.toNat 0]?) fun x9 =>
                    if x9 = x.v then
                      if 0 ≤ 1 ∧ 1 ≤ (List.length (m.q 4).l : Int) then Option.bind (sentF m x.a ⟨(List.drop (Int.toNat 1) (m.q 4).l), (m.q 4).c⟩) fun x12 =>
                      some (.tup [(Md.av x12), (.bool true)]) else none
                    else
                      some (.tup [(Md.av m), (.bool false)])
            else
              if x.a = 5 then
                if x.kind = 1 then
                  if (List.length (m.q 5).l + List.length [x.v]) * 8 ≤ roomB ∧ List.length (m.q 5).l + List.length [x.v] ≤ roomB then Option.bind (sentF m x.a ⟨((m.q 5).l ++ [x.v]), false⟩) fun x9 =>
                  some (.tup [(Md.av x9), (.bool true)]) else none
                else
                  if x.kind = 3 then
                    some (.tup [(Md.av m), (.bool (decide ((List.length (m.q 5).l : Int) = 0)))])
                  else
                    if (List.length (m.q 5).l : Int) = 0 then
                      some (.tup [(Md.av m), (.bool false)])
                    else
                      Option.bind ((m.q 5).l[Int.toNat 0]?) fun x10 =>
                      if x10 = x.v then
                        if 0 ≤ 1 ∧ 1 ≤ (List.length (m.q 5).l : Int) then Option.bind (sentF m x.a ⟨(List.drop (Int.toNat 1) (m.q 5).l), (m.q 5).c⟩) fun x13 =>
                        some (.tup [(Md.av x13), (.bool true)]) else none
                      else
                        some (.tup [(Md.av m), (.bool false)])
              else
                if x.a = 6 then
                  if x.kind = 1 then
                    if (List.length (m.q 6).l + List.length [x.v]) * 8 ≤ roomB ∧ List.length (m.q 6).l + List.length [x.v] ≤ roomB then Option.bind (sentF m x.a ⟨((m.q 6).l ++ [x.v]), false⟩) fun x10 =>
                    some (.tup [(Md.av x10), (.bool true)]) else none
                  else
                    if x.kind = 3 then
                      some (.tup [(Md.av m), (.bool (decide ((List.length (m.q 6).l : Int) = 0)))])
                    else
                      if (List.length (m.q 6).l : Int) = 0 then
                        some (.tup [(Md.av m), (.bool false)])
                      else
                        Option.bind ((m.q 6).l[Int.toNat 0]?) fun x11 =>
                        if x11 = x.v then
                          if 0 ≤ 1 ∧ 1 ≤ (List.length (m.q 6).l : Int) then Option.bind (sentF m x.a ⟨(List.drop (Int.toNat 1) (m.q 6).l), (m.q 6).c⟩) fun x14 =>
                          some (.tup [(Md.av x14), (.bool true)]) else none
                        else
                          some (.tup [(Md.av m), (.bool false)])
                else
                  if x.a = 7 then if x.kind = 1 then
                    if (List.length (m.q 7).l + List.length [x.v]) * 8 ≤ roomB ∧ List.length (m.q 7).l + List.length [x.v] ≤ roomB then Option.bind (sentF m x.a ⟨((m.q 7).l ++ [x.v]), false⟩) fun x11 =>
                    some (.tup [(Md.av x11), (.bool true)]) else none
                  else
                    if x.kind = 3 then
                      some (.tup [(Md.av m), (.bool (decide ((List.length (m.q 7).l : Int) = 0)))])
                    else
                      if (List.length (m.q 7).l : Int) = 0 then
                        some (.tup [(Md.av m), (.bool false)])
                      else
                        Option.bind ((m.q 7).l[Int.toNat 0]?) fun x12 =>
                        if x12 = x.v then
                          if 0 ≤ 1 ∧ 1 ≤ (List.length (m.q 7).l : Int) then Option.bind (sentF m x.a ⟨(List.drop (Int.toNat 1) (m.q 7).l), (m.q 7).c⟩) fun x15 =>
                          some (.tup [(Md.av x15), (.bool true)]) else none
                        else
                          some (.tup [(Md.av m), (.bool false)]) else none
def f35W : List AV := [(.agg (vF 0 10 ++ vT 0 32)), (.agg (vT 32 5))]
def f35V (m : Md) (x : Ev) (σ : Nat → Nat) : Val := (valL (ap (mdT m) ([.int .i64 x.core, .int .i64 x.kind, .int .i64 x.a, .int .i64 x.b, .int .i64 x.v])) (mdF m) [] σ 0)
def f35X (m : Md) (x : Ev) (_σ : Nat → Nat) : List AV := [(Md.av m), (.agg [(.int .i64 x.core), (.int .i64 x.kind), (.int .i64 x.a), (.int .i64 x.b), (.int .i64 x.v)])]
def f35Y (_m : Md) (_x : Ev) (_σ : Nat → Nat) : List Blk := []
theorem f35E (m : Md) (x : Ev) (σ : Nat → Nat) : f35W.map (gm (f35V m x σ)) = f35X m x σ := by kernel_rfl
theorem f35G (m : Md) (x : Ev) (σ : Nat → Nat) : ([] : List Blk).map (gB (f35V m x σ)) = f35Y m x σ := by kernel_rfl
set_option maxHeartbeats 10000000 in
theorem f35_ok (m : Md) (x : Ev) {r0 : AV} (h : f35 m x = some r0) : Spec FF 35 [(Md.av m), (.agg [(.int .i64 x.core), (.int .i64 x.kind), (.int .i64 x.a), (.int .i64 x.b), (.int .i64 x.v)])] r0 := by
  unfold f35 at h
  have hσ : ∀ i j : Nat, (fun i : Nat => i) i = (fun i : Nat => i) j → i = j := fun _ _ e => e
  exact spec_begin (ρ := f35V m x (fun i => i)) (xs := f35W) (by kernel_rfl) rfl rfl (by kernel_rfl) (fun z0 S => have H := Tok.start hσ S 0 37 10 0 (ap (mdT m) ([.int .i64 x.core, .int .i64 x.kind, .int .i64 x.a, .int .i64 x.b, .int .i64 x.v])) (mdF m) [] (mdF_ok m) .n (f35E m x _) (f35G m x _); have H := H.t 39 [.bool (belowF x.a 8), .bool (!(belowF x.a 8))] |>.r [(.un .not (cT 37), (vt 38))] |>.s [(vt 34), (.int .i64 8)] (vt 37) (belowF_ok x.a 8); iteE h (fun h0 h => have H := H.m 38 true h0; H.e [] h) (fun h0 h => have H := H.m 38 false (bF h0); iteE h (fun h1 h => have H := H.t 40 [.bool (decide (x.kind = 1))] |>.r [(.bin .eql (cT 33) (cI 1), (vt 39))] |>.c (p := (.iaA 8 1 (.c (.ptr 0 0)) (cT 34), (.ptr 0 0))) (fun _ _ _ => fIaP (j := 0) (k := .i64) (n := x.a) (by kernel_rfl) h1 (by decide)); iteE h (fun h2 h => have H := H.f 11 [.im (List.map eI (m.q 0).l) true] (.c (OkF.im eI_ok _ _) <| .n) |>.m 39 true (decide_eq_true h2) |>.s [(vf 0)] (vf 10) (clip_ok ((m.q 0).l) (m.q 0).c); reqE h (fun h3 h => have H := H.o 0 (1, List.map eI ((m.q 0).l ++ [x.v])) (.own eI_ok _) |>.a ⟨false, 1, 8, (vf 10), (.im [[(vt 36)]] true), 1000001⟩ (fun _ _ _ => fApp (e := eI) (l := (m.q 0).l) (m := [x.v]) (cb := true) (cx := true) (by kernel_rfl) (by kernel_rfl) (by kernel_rfl) h3 (.inr ⟨rfl, by simp⟩) (by decide) (by decide) (by decide)); bindE h (fun x4 h4 h => have H := H.t 72 (mdT x4) |>.f 21 (mdF x4) (mdF_ok x4) |>.s [(.agg (vF 0 10 ++ vT 0 32)), (vt 34), (vf 1000001)] (.agg (vF 11 10 ++ vT 40 32)) (sent_ok h4); H.e [] h))) (fun h2 h => have H := H.t 41 [.bool (decide (x.kind = 3))] |>.r [(.bin .eql (cT 33) (cI 3), (vt 40))] |>.m 39 false (decide_eq_false h2); iteE h (fun h3 h => have H := H.t 43 [.int .i64 (List.length (m.q 0).l : Int), .bool (decide ((List.length (m.q 0).l : Int) = 0))] |>.r [(.bin .eql (cT 41) (cI 0), (vt 42))] |>.m 40 true (decide_eq_true h3) |>.c (p := (.len 0 (cF 0), (vt 41))) (fun _ _ _ => fLen (e := eI) (l := (m.q 0).l) (b := (m.q 0).c) (by kernel_rfl) (by kernel_rfl)); H.e [] h) (fun h3 h => have H := H.t 43 [.int .i64 (List.length (m.q 0).l : Int), .bool (decide ((List.length (m.q 0).l : Int) = 0))] |>.r [(.bin .eql (cT 41) (cI 0), (vt 42))] |>.m 40 false (decide_eq_false h3) |>.c (p := (.len 0 (cF 0), (vt 41))) (fun _ _ _ => fLen (e := eI) (l := (m.q 0).l) (b := (m.q 0).c) (by kernel_rfl) (by kernel_rfl)); iteE h (fun h4 h => have H := H.m 42 true (decide_eq_true h4); H.e [] h) (fun h4 h => have H := H.m 42 false (decide_eq_false h4); bindE h (fun x5 h5 h => have H := H.t 45 [.int .i64 x5, .bool (!decide (x5 = x.v))] |>.r [(.bin .neq (cT 43) (cT 36), (vt 44))] |>.c (p := (.iaS 1 (cF 0) (cI 0), (.ip [(vt 43)] 0))) (fun _ _ _ => fIa (sz := 1) (e := eI) (l := (m.q 0).l) (b := (m.q 0).c) (k := .i64) (n := 0) (y := x5) eI_ok (by kernel_rfl) (by kernel_rfl) (by decide) h5 (by kernel_rfl)); iteE h (fun h6 h => have H := H.m 44 false (nT h6); reqE h (fun _ h => have H := H.f 11 [.im (List.map eI (List.drop (Int.toNat 1) (m.q 0).l)) (m.q 0).c] (.c (OkF.im eI_ok _ _) <| .n) |>.c (p := (.slS 1 (cF 0) (some (cI 1)) none none, (vf 10))) (fun _ _ _ => fSl (sz := 1) (e := eI) (l := (m.q 0).l) (l' := (List.drop (Int.toNat 1) (m.q 0).l)) (b := (m.q 0).c) (b' := (m.q 0).c) (lo := (some ((.int .i64 1), (1 : Int)))) (hi := none) (mx := none) eI_ok (by kernel_rfl) ⟨.i64, by kernel_rfl⟩ trivial trivial (by simp only [optN]; omega) (by simp) (by simp only [optN]; exact drop_full _ _) (by simp [optN]) (by kernel_rfl)); bindE h (fun x8 h8 h => have H := H.t 77 (mdT x8) |>.f 21 (mdF x8) (mdF_ok x8) |>.s [(.agg (vF 0 10 ++ vT 0 32)), (vt 34), (vf 10)] (.agg (vF 11 10 ++ vT 45 32)) (sent_ok h8); H.e [] h))) (fun h6 h => have H := H.m 44 true (nF h6); H.e [] h)))))) (fun _ h => iteE h (fun h2 h => have H := H.t 40 [.bool (decide (x.kind = 1))] |>.r [(.bin .eql (cT 33) (cI 1), (vt 39))] |>.c (p := (.iaA 8 1 (.c (.ptr 0 0)) (cT 34), (.ptr 0 1))) (fun _ _ _ => fIaP (j := 1) (k := .i64) (n := x.a) (by kernel_rfl) h2 (by decide)); iteE h (fun h3 h => have H := H.f 11 [.im (List.map eI (m.q 1).l) true] (.c (OkF.im eI_ok _ _) <| .n) |>.m 39 true (decide_eq_true h3) |>.s [(vf 1)] (vf 10) (clip_ok ((m.q 1).l) (m.q 1).c); reqE h (fun h4 h => have H := H.o 0 (1, List.map eI ((m.q 1).l ++ [x.v])) (.own eI_ok _) |>.a ⟨false, 1, 8, (vf 10), (.im [[(vt 36)]] true), 1000001⟩ (fun _ _ _ => fApp (e := eI) (l := (m.q 1).l) (m := [x.v]) (cb := true) (cx := true) (by kernel_rfl) (by kernel_rfl) (by kernel_rfl) h4 (.inr ⟨rfl, by simp⟩) (by decide) (by decide) (by decide)); bindE h (fun x5 h5 h => have H := H.t 72 (mdT x5) |>.f 21 (mdF x5) (mdF_ok x5) |>.s [(.agg (vF 0 10 ++ vT 0 32)), (vt 34), (vf 1000001)] (.agg (vF 11 10 ++ vT 40 32)) (sent_ok h5); H.e [] h))) (fun h3 h => have H := H.t 41 [.bool (decide (x.kind = 3))] |>.r [(.bin .eql (cT 33) (cI 3), (vt 40))] |>.m 39 false (decide_eq_false h3); iteE h (fun h4 h => have H := H.t 43 [.int .i64 (List.length (m.q 1).l : Int), .bool (decide ((List.length (m.q 1).l : Int) = 0))] |>.r [(.bin .eql (cT 41) (cI 0), (vt 42))] |>.m 40 true (decide_eq_true h4) |>.c (p := (.len 0 (cF 1), (vt 41))) (fun _ _ _ => fLen (e := eI) (l := (m.q 1).l) (b := (m.q 1).c) (by kernel_rfl) (by kernel_rfl)); H.e [] h) (fun h4 h => have H := H.t 43 [.int .i64 (List.length (m.q 1).l : Int), .bool (decide ((List.length (m.q 1).l : Int) = 0))] |>.r [(.bin .eql (cT 41) (cI 0), (vt 42))] |>.m 40 false (decide_eq_false h4) |>.c (p := (.len 0 (cF 1), (vt 41))) (fun _ _ _ => fLen (e := eI) (l := (m.q 1).l) (b := (m.q 1).c) (by kernel_rfl) (by kernel_rfl)); iteE h (fun h5 h => have H := H.m 42 true (decide_eq_true h5); H.e [] h) (fun h5 h => have H := H.m 42 false (decide_eq_false h5); bindE h (fun x6 h6 h => have H := H.t 45 [.int .i64 x6, .bool (!decide (x6 = x.v))] |>.r [(.bin .neq (cT 43) (cT 36), (vt 44))] |>.c (p := (.iaS 1 (cF 1) (cI 0), (.ip [(vt 43)] 0))) (fun _ _ _ => fIa (sz := 1) (e := eI) (l := (m.q 1).l) (b := (m.q 1).c) (k := .i64) (n := 0) (y := x6) eI_ok (by kernel_rfl) (by kernel_rfl) (by decide) h6 (by kernel_rfl)); iteE h (fun h7 h => have H := H.m 44 false (nT h7); reqE h (fun _ h => have H := H.f 11 [.im (List.map eI (List.drop (Int.toNat 1) (m.q 1).l)) (m.q 1).c] (.c (OkF.im eI_ok _ _) <| .n) |>.c (p := (.slS 1 (cF 1) (some (cI 1)) none none, (vf 10))) (fun _ _ _ => fSl (sz := 1) (e := eI) (l := (m.q 1).l) (l' := (List.drop (Int.toNat 1) (m.q 1).l)) (b := (m.q 1).c) (b' := (m.q 1).c) (lo := (some ((.int .i64 1), (1 : Int)))) (hi := none) (mx := none) eI_ok (by kernel_rfl) ⟨.i64, by kernel_rfl⟩ trivial trivial (by simp only [optN]; omega) (by simp) (by simp only [optN]; exact drop_full _ _) (by simp [optN]) (by kernel_rfl)); bindE h (fun x9 h9 h => have H := H.t 77 (mdT x9) |>.f 21 (mdF x9) (mdF_ok x9) |>.s [(.agg (vF 0 10 ++ vT 0 32)), (vt 34), (vf 10)] (.agg (vF 11 10 ++ vT 45 32)) (sent_ok h9); H.e [] h))) (fun h7 h => have H := H.m 44 true (nF h7); H.e [] h)))))) (fun _ h => iteE h (fun h3 h => have H := H.t 40 [.bool (decide (x.kind = 1))] |>.r [(.bin .eql (cT 33) (cI 1), (vt 39))] |>.c (p := (.iaA 8 1 (.c (.ptr 0 0)) (cT 34), (.ptr 0 2))) (fun _ _ _ => fIaP (j := 2) (k := .i64) (n := x.a) (by kernel_rfl) h3 (by decide)); iteE h (fun h4 h => have H := H.f 11 [.im (List.map eI (m.q 2).l) true] (.c (OkF.im eI_ok _ _) <| .n) |>.m 39 true (decide_eq_true h4) |>.s [(vf 2)] (vf 10) (clip_ok ((m.q 2).l) (m.q 2).c); reqE h (fun h5 h => have H := H.o 0 (1, List.map eI ((m.q 2).l ++ [x.v])) (.own eI_ok _) |>.a ⟨false, 1, 8, (vf 10), (.im [[(vt 36)]] true), 1000001⟩ (fun _ _ _ => fApp (e := eI) (l := (m.q 2).l) (m := [x.v]) (cb := true) (cx := true) (by kernel_rfl) (by kernel_rfl) (by kernel_rfl) h5 (.inr ⟨rfl, by simp⟩) (by decide) (by decide) (by decide)); bindE h (fun x6 h6 h => have H := H.t 72 (mdT x6) |>.f 21 (mdF x6) (mdF_ok x6) |>.s [(.agg (vF 0 10 ++ vT 0 32)), (vt 34), (vf 1000001)] (.agg (vF 11 10 ++ vT 40 32)) (sent_ok h6); H.e [] h))) (fun h4 h => have H := H.t 41 [.bool (decide (x.kind = 3))] |>.r [(.bin .eql (cT 33) (cI 3), (vt 40))] |>.m 39 false (decide_eq_false h4); iteE h (fun h5 h => have H := H.t 43 [.int .i64 (List.length (m.q 2).l : Int), .bool (decide ((List.length (m.q 2).l : Int) = 0))] |>.r [(.bin .eql (cT 41) (cI 0), (vt 42))] |>.m 40 true (decide_eq_true h5) |>.c (p := (.len 0 (cF 2), (vt 41))) (fun _ _ _ => fLen (e := eI) (l := (m.q 2).l) (b := (m.q 2).c) (by kernel_rfl) (by kernel_rfl)); H.e [] h) (fun h5 h => have H := H.t 43 [.int .i64 (List.length (m.q 2).l : Int), .bool (decide ((List.length (m.q 2).l : Int) = 0))] |>.r [(.bin .eql (cT 41) (cI 0), (vt 42))] |>.m 40 false (decide_eq_false h5) |>.c (p := (.len 0 (cF 2), (vt 41))) (fun _ _ _ => fLen (e := eI) (l := (m.q 2).l) (b := (m.q 2).c) (by kernel_rfl) (by kernel_rfl)); iteE h (fun h6 h => have H := H.m 42 true (decide_eq_true h6); H.e [] h) (fun h6 h => have H := H.m 42 false (decide_eq_false h6); bindE h (fun x7 h7 h => have H := H.t 45 [.int .i64 x7, .bool (!decide (x7 = x.v))] |>.r [(.bin .neq (cT 43) (cT 36), (vt 44))] |>.c (p := (.iaS 1 (cF 2) (cI 0), (.ip [(vt 43)] 0))) (fun _ _ _ => fIa (sz := 1) (e := eI) (l := (m.q 2).l) (b := (m.q 2).c) (k := .i64) (n := 0) (y := x7) eI_ok (by kernel_rfl) (by kernel_rfl) (by decide) h7 (by kernel_rfl)); iteE h (fun h8 h => have H := H.m 44 false (nT h8); reqE h (fun _ h => have H := H.f 11 [.im (List.map eI (List.drop (Int.toNat 1) (m.q 2).l)) (m.q 2).c] (.c (OkF.im eI_ok _ _) <| .n) |>.c (p := (.slS 1 (cF 2) (some (cI 1)) none none, (vf 10))) (fun _ _ _ => fSl (sz := 1) (e := eI) (l := (m.q 2).l) (l' := (List.drop (Int.toNat 1) (m.q 2).l)) (b := (m.q 2).c) (b' := (m.q 2).c) (lo := (some ((.int .i64 1), (1 : Int)))) (hi := none) (mx := none) eI_ok (by kernel_rfl) ⟨.i64, by kernel_rfl⟩ trivial trivial (by simp only [optN]; omega) (by simp) (by simp only [optN]; exact drop_full _ _) (by simp [optN]) (by kernel_rfl)); bindE h (fun x10 h10 h => have H := H.t 77 (mdT x10) |>.f 21 (mdF x10) (mdF_ok x10) |>.s [(.agg (vF 0 10 ++ vT 0 32)), (vt 34), (vf 10)] (.agg (vF 11 10 ++ vT 45 32)) (sent_ok h10); H.e [] h))) (fun h8 h => have H := H.m 44 true (nF h8); H.e [] h)))))) (fun _ h => iteE h (fun h4 h => have H := H.t 40 [.bool (decide (x.kind = 1))] |>.r [(.bin .eql (cT 33) (cI 1), (vt 39))] |>.c (p := (.iaA 8 1 (.c (.ptr 0 0)) (cT 34), (.ptr 0 3))) (fun _ _ _ => fIaP (j := 3) (k := .i64) (n := x.a) (by kernel_rfl) h4 (by decide)); iteE h (fun h5 h => have H := H.f 11 [.im (List.map eI (m.q 3).l) true] (.c (OkF.im eI_ok _ _) <| .n) |>.m 39 true (decide_eq_true h5) |>.s [(vf 3)] (vf 10) (clip_ok ((m.q 3).l) (m.q 3).c); reqE h (fun h6 h => have H := H.o 0 (1, List.map eI ((m.q 3).l ++ [x.v])) (.own eI_ok _) |>.a ⟨false, 1, 8, (vf 10), (.im [[(vt 36)]] true), 1000001⟩ (fun _ _ _ => fApp (e := eI) (l := (m.q 3).l) (m := [x.v]) (cb := true) (cx := true) (by kernel_rfl) (by kernel_rfl) (by kernel_rfl) h6 (.inr ⟨rfl, by simp⟩) (by decide) (by decide) (by decide)); bindE h (fun x7 h7 h => have H := H.t 72 (mdT x7) |>.f 21 (mdF x7) (mdF_ok x7) |>.s [(.agg (vF 0 10 ++ vT 0 32)), (vt 34), (vf 1000001)] (.agg (vF 11 10 ++ vT 40 32)) (sent_ok h7); H.e [] h))) (fun h5 h => have H := H.t 41 [.bool (decide (x.kind = 3))] |>.r [(.bin .eql (cT 33) (cI 3), (vt 40))] |>.m 39 false (decide_eq_false h5); iteE h (fun h6 h => have H := H.t 43 [.int .i64 (List.length (m.q 3).l : Int), .bool (decide ((List.length (m.q 3).l : Int) = 0))] |>.r [(.bin .eql (cT 41) (cI 0), (vt 42))] |>.m 40 true (decide_eq_true h6) |>.c (p := (.len 0 (cF 3), (vt 41))) (fun _ _ _ => fLen (e := eI) (l := (m.q 3).l) (b := (m.q 3).c) (by kernel_rfl) (by kernel_rfl)); H.e [] h) (fun h6 h => have H := H.t 43 [.int .i64 (List.length (m.q 3).l : Int), .bool (decide ((List.length (m.q 3).l : Int) = 0))] |>.r [(.bin .eql (cT 41) (cI 0), (vt 42))] |>.m 40 false (decide_eq_false h6) |>.c (p := (.len 0 (cF 3), (vt 41))) (fun _ _ _ => fLen (e := eI) (l := (m.q 3).l) (b := (m.q 3).c) (by kernel_rfl) (by kernel_rfl)); iteE h (fun h7 h => have H := H.m 42 true (decide_eq_true h7); H.e [] h) (fun h7 h => have H := H.m 42 false (decide_eq_false h7); bindE h (fun x8 h8 h => have H := H.t 45 [.int .i64 x8, .bool (!decide (x8 = x.v))] |>.r [(.bin .neq (cT 43) (cT 36), (vt 44))] |>.c (p := (.iaS 1 (cF 3) (cI 0), (.ip [(vt 43)] 0))) (fun _ _ _ => fIa (sz := 1) (e := eI) (l := (m.q 3).l) (b := (m.q 3).c) (k := .i64) (n := 0) (y := x8) eI_ok (by kernel_rfl) (by kernel_rfl) (by decide) h8 (by kernel_rfl)); iteE h (fun h9 h => have H := H.m 44 false (nT h9); reqE h (fun _ h => have H := H.f 11 [.im (List.map eI (List.drop (Int.toNat 1) (m.q 3).l)) (m.q 3).c] (.c (OkF.im eI_ok _ _) <| .n) |>.c (p := (.slS 1 (cF 3) (some (cI 1)) none none, (vf 10))) (fun _ _ _ => fSl (sz := 1) (e := eI) (l := (m.q 3).l) (l' := (List.drop (Int.toNat 1) (m.q 3).l)) (b := (m.q 3).c) (b' := (m.q 3).c) (lo := (some ((.int .i64 1), (1 : Int)))) (hi := none) (mx := none) eI_ok (by kernel_rfl) ⟨.i64, by kernel_rfl⟩ trivial trivial (by simp only [optN]; omega) (by simp) (by simp only [optN]; exact drop_full _ _) (by simp [optN]) (by kernel_rfl)); bindE h (fun x11 h11 h => have H := H.t 77 (mdT x11) |>.f 21 (mdF x11) (mdF_ok x11) |>.s [(.agg (vF 0 10 ++ vT 0 32)), (vt 34), (vf 10)] (.agg (vF 11 10 ++ vT 45 32)) (sent_ok h11); H.e [] h))) (fun h9 h => have H := H.m 44 true (nF h9); H.e [] h)))))) (fun _ h => iteE h (fun h5 h => have H := H.t 40 [.bool (decide (x.kind = 1))] |>.r [(.bin .eql (cT 33) (cI 1), (vt 39))] |>.c (p := (.iaA 8 1 (.c (.ptr 0 0)) (cT 34), (.ptr 0 4))) (fun _ _ _ => fIaP (j := 4) (k := .i64) (n := x.a) (by kernel_rfl) h5 (by decide)); iteE h (fun h6 h => have H := H.f 11 [.im (List.map eI (m.q 4).l) true] (.c (OkF.im eI_ok _ _) <| .n) |>.m 39 true (decide_eq_true h6) |>.s [(vf 4)] (vf 10) (clip_ok ((m.q 4).l) (m.q 4).c); reqE h (fun h7 h => have H := H.o 0 (1, List.map eI ((m.q 4).l ++ [x.v])) (.own eI_ok _) |>.a ⟨false, 1, 8, (vf 10), (.im [[(vt 36)]] true), 1000001⟩ (fun _ _ _ => fApp (e := eI) (l := (m.q 4).l) (m := [x.v]) (cb := true) (cx := true) (by kernel_rfl) (by kernel_rfl) (by kernel_rfl) h7 (.inr ⟨rfl, by simp⟩) (by decide) (by decide) (by decide)); bindE h (fun x8 h8 h => have H := H.t 72 (mdT x8) |>.f 21 (mdF x8) (mdF_ok x8) |>.s [(.agg (vF 0 10 ++ vT 0 32)), (vt 34), (vf 1000001)] (.agg (vF 11 10 ++ vT 40 32)) (sent_ok h8); H.e [] h))) (fun h6 h => have H := H.t 41 [.bool (decide (x.kind = 3))] |>.r [(.bin .eql (cT 33) (cI 3), (vt 40))] |>.m 39 false (decide_eq_false h6); iteE h (fun h7 h => have H := H.t 43 [.int .i64 (List.length (m.q 4).l : Int), .bool (decide ((List.length (m.q 4).l : Int) = 0))] |>.r [(.bin .eql (cT 41) (cI 0), (vt 42))] |>.m 40 true (decide_eq_true h7) |>.c (p := (.len 0 (cF 4), (vt 41))) (fun _ _ _ => fLen (e := eI) (l := (m.q 4).l) (b := (m.q 4).c) (by kernel_rfl) (by kernel_rfl)); H.e [] h) (fun h7 h => have H := H.t 43 [.int .i64 (List.length (m.q 4).l : Int), .bool (decide ((List.length (m.q 4).l : Int) = 0))] |>.r [(.bin .eql (cT 41) (cI 0), (vt 42))] |>.m 40 false (decide_eq_false h7) |>.c (p := (.len 0 (cF 4), (vt 41))) (fun _ _ _ => fLen (e := eI) (l := (m.q 4).l) (b := (m.q 4).c) (by kernel_rfl) (by kernel_rfl)); iteE h (fun h8 h => have H := H.m 42 true (decide_eq_true h8); H.e [] h) (fun h8 h => have H := H.m 42 false (decide_eq_false h8); bindE h (fun x9 h9 h => have H := H.t 45 [.int .i64 x9, .bool (!decide (x9 = x.v))] |>.r [(.bin .neq (cT 43) (cT 36), (vt 44))] |>.c (p := (.iaS 1 (cF 4) (cI 0), (.ip [(vt 43)] 0))) (fun _ _ _ => fIa (sz := 1) (e := eI) (l := (m.q 4).l) (b := (m.q 4).c) (k := .i64) (n := 0) (y := x9) eI_ok (by kernel_rfl) (by kernel_rfl) (by decide) h9 (by kernel_rfl)); iteE h (fun h10 h => have H := H.m 44 false (nT h10); reqE h (fun _ h => have H := H.f 11 [.im (List.map eI (List.drop (Int.toNat 1) (m.q 4).l)) (m.q 4).c] (.c (OkF.im eI_ok _ _) <| .n) |>.c (p := (.slS 1 (cF 4) (some (cI 1)) none none, (vf 10))) (fun _ _ _ => fSl (sz := 1) (e := eI) (l := (m.q 4).l) (l' := (List.drop (Int.toNat 1) (m.q 4).l)) (b := (m.q 4).c) (b' := (m.q 4).c) (lo := (some ((.int .i64 1), (1 : Int)))) (hi := none) (mx := none) eI_ok (by kernel_rfl) ⟨.i64, by kernel_rfl⟩ trivial trivial (by simp only [optN]; omega) (by simp) (by simp only [optN]; exact drop_full _ _) (by simp [optN]) (by kernel_rfl)); bindE h (fun x12 h12 h => have H := H.t 77 (mdT x12) |>.f 21 (mdF x12) (mdF_ok x12) |>.s [(.agg (vF 0 10 ++ vT 0 32)), (vt 34), (vf 10)] (.agg (vF 11 10 ++ vT 45 32)) (sent_ok h12); H.e [] h))) (fun h10 h => have H := H.m 44 true (nF h10); H.e [] h)))))) (fun _ h => iteE h (fun h6 h => have H := H.t 40 [.bool (decide (x.kind = 1))] |>.r [(.bin .eql (cT 33) (cI 1), (vt 39))] |>.c (p := (.iaA 8 1 (.c (.ptr 0 0)) (cT 34), (.ptr 0 5))) (fun _ _ _ => fIaP (j := 5) (k := .i64) (n := x.a) (by kernel_rfl) h6 (by decide)); iteE h (fun h7 h => have H := H.f 11 [.im (List.map eI (m.q 5).l) true] (.c (OkF.im eI_ok _ _) <| .n) |>.m 39 true (decide_eq_true h7) |>.s [(vf 5)] (vf 10) (clip_ok ((m.q 5).l) (m.q 5).c); reqE h (fun h8 h => have H := H.o 0 (1, List.map eI ((m.q 5).l ++ [x.v])) (.own eI_ok _) |>.a ⟨false, 1, 8, (vf 10), (.im [[(vt 36)]] true), 1000001⟩ (fun _ _ _ => fApp (e := eI) (l := (m.q 5).l) (m := [x.v]) (cb := true) (cx := true) (by kernel_rfl) (by kernel_rfl) (by kernel_rfl) h8 (.inr ⟨rfl, by simp⟩) (by decide) (by decide) (by decide)); bindE h (fun x9 h9 h => have H := H.t 72 (mdT x9) |>.f 21 (mdF x9) (mdF_ok x9) |>.s [(.agg (vF 0 10 ++ vT 0 32)), (vt 34), (vf 1000001)] (.agg (vF 11 10 ++ vT 40 32)) (sent_ok h9); H.e [] h))) (fun h7 h => have H := H.t 41 [.bool (decide (x.kind = 3))] |>.r [(.bin .eql (cT 33) (cI 3), (vt 40))] |>.m 39 false (decide_eq_false h7); iteE h (fun h8 h => have H := H.t 43 [.int .i64 (List.length (m.q 5).l : Int), .bool (decide ((List.length (m.q 5).l : Int) = 0))] |>.r [(.bin .eql (cT 41) (cI 0), (vt 42))] |>.m 40 true (decide_eq_true h8) |>.c (p := (.len 0 (cF 5), (vt 41))) (fun _ _ _ => fLen (e := eI) (l := (m.q 5).l) (b := (m.q 5).c) (by kernel_rfl) (by kernel_rfl)); H.e [] h) (fun h8 h => have H := H.t 43 [.int .i64 (List.length (m.q 5).l : Int), .bool (decide ((List.length (m.q 5).l : Int) = 0))] |>.r [(.bin .eql (cT 41) (cI 0), (vt 42))] |>.m 40 false (decide_eq_false h8) |>.c (p := (.len 0 (cF 5), (vt 41))) (fun _ _ _ => fLen (e := eI) (l := (m.q 5).l) (b := (m.q 5).c) (by kernel_rfl) (by kernel_rfl)); iteE h (fun h9 h => have H := H.m 42 true (decide_eq_true h9); H.e [] h) (fun h9 h => have H := H.m 42 false (decide_eq_false h9); bindE h (fun x10 h10 h => have H := H.t 45 [.int .i64 x10, .bool (!decide (x10 = x.v))] |>.r [(.bin .neq (cT 43) (cT 36), (vt 44))] |>.c (p := (.iaS 1 (cF 5) (cI 0), (.ip [(vt 43)] 0))) (fun _ _ _ => fIa (sz := 1) (e := eI) (l := (m.q 5).l) (b := (m.q 5).c) (k := .i64) (n := 0) (y := x10) eI_ok (by kernel_rfl) (by kernel_rfl) (by decide) h10 (by kernel_rfl)); iteE h (fun h11 h => have H := H.m 44 false (nT h11); reqE h (fun _ h => have H := H.f 11 [.im (List.map eI (List.drop (Int.toNat 1) (m.q 5).l)) (m.q 5).c] (.c (OkF.im eI_ok _ _) <| .n) |>.c (p := (.slS 1 (cF 5) (some (cI 1)) none none, (vf 10))) (fun _ _ _ => fSl (sz := 1) (e := eI) (l := (m.q 5).l) (l' := (List.drop (Int.toNat 1) (m.q 5).l)) (b := (m.q 5).c) (b' := (m.q 5).c) (lo := (some ((.int .i64 1), (1 : Int)))) (hi := none) (mx := none) eI_ok (by kernel_rfl) ⟨.i64, by kernel_rfl⟩ trivial trivial (by simp only [optN]; omega) (by simp) (by simp only [optN]; exact drop_full _ _) (by simp [optN]) (by kernel_rfl)); bindE h (fun x13 h13 h => have H := H.t 77 (mdT x13) |>.f 21 (mdF x13) (mdF_ok x13) |>.s [(.agg (vF 0 10 ++ vT 0 32)), (vt 34), (vf 10)] (.agg (vF 11 10 ++ vT 45 32)) (sent_ok h13); H.e [] h))) (fun h11 h => have H := H.m 44 true (nF h11); H.e [] h)))))) (fun _ h => iteE h (fun h7 h => have H := H.t 40 [.bool (decide (x.kind = 1))] |>.r [(.bin .eql (cT 33) (cI 1), (vt 39))] |>.c (p := (.iaA 8 1 (.c (.ptr 0 0)) (cT 34), (.ptr 0 6))) (fun _ _ _ => fIaP (j := 6) (k := .i64) (n := x.a) (by kernel_rfl) h7 (by decide)); iteE h (fun h8 h => have H := H.f 11 [.im (List.map eI (m.q 6).l) true] (.c (OkF.im eI_ok _ _) <| .n) |>.m 39 true (decide_eq_true h8) |>.s [(vf 6)] (vf 10) (clip_ok ((m.q 6).l) (m.q 6).c); reqE h (fun h9 h => have H := H.o 0 (1, List.map eI ((m.q 6).l ++ [x.v])) (.own eI_ok _) |>.a ⟨false, 1, 8, (vf 10), (.im [[(vt 36)]] true), 1000001⟩ (fun _ _ _ => fApp (e := eI) (l := (m.q 6).l) (m := [x.v]) (cb := true) (cx := true) (by kernel_rfl) (by kernel_rfl) (by kernel_rfl) h9 (.inr ⟨rfl, by simp⟩) (by decide) (by decide) (by decide)); bindE h (fun x10 h10 h => have H := H.t 72 (mdT x10) |>.f 21 (mdF x10) (mdF_ok x10) |>.s [(.agg (vF 0 10 ++ vT 0 32)), (vt 34), (vf 1000001)] (.agg (vF 11 10 ++ vT 40 32)) (sent_ok h10); H.e [] h))) (fun h8 h => have H := H.t 41 [.bool (decide (x.kind = 3))] |>.r [(.bin .eql (cT 33) (cI 3), (vt 40))] |>.m 39 false (decide_eq_false h8); iteE h (fun h9 h => have H := H.t 43 [.int .i64 (List.length (m.q 6).l : Int), .bool (decide ((List.length (m.q 6).l : Int) = 0))] |>.r [(.bin .eql (cT 41) (cI 0), (vt 42))] |>.m 40 true (decide_eq_true h9) |>.c (p := (.len 0 (cF 6), (vt 41))) (fun _ _ _ => fLen (e := eI) (l := (m.q 6).l) (b := (m.q 6).c) (by kernel_rfl) (by kernel_rfl)); H.e [] h) (fun h9 h => have H := H.t 43 [.int .i64 (List.length (m.q 6).l : Int), .bool (decide ((List.length (m.q 6).l : Int) = 0))] |>.r [(.bin .eql (cT 41) (cI 0), (vt 42))] |>.m 40 false (decide_eq_false h9) |>.c (p := (.len 0 (cF 6), (vt 41))) (fun _ _ _ => fLen (e := eI) (l := (m.q 6).l) (b := (m.q 6).c) (by kernel_rfl) (by kernel_rfl)); iteE h (fun h10 h => have H := H.m 42 true (decide_eq_true h10); H.e [] h) (fun h10 h => have H := H.m 42 false (decide_eq_false h10); bindE h (fun x11 h11 h => have H := H.t 45 [.int .i64 x11, .bool (!decide (x11 = x.v))] |>.r [(.bin .neq (cT 43) (cT 36), (vt 44))] |>.c (p := (.iaS 1 (cF 6) (cI 0), (.ip [(vt 43)] 0))) (fun _ _ _ => fIa (sz := 1) (e := eI) (l := (m.q 6).l) (b := (m.q 6).c) (k := .i64) (n := 0) (y := x11) eI_ok (by kernel_rfl) (by kernel_rfl) (by decide) h11 (by kernel_rfl)); iteE h (fun h12 h => have H := H.m 44 false (nT h12); reqE h (fun _ h => have H := H.f 11 [.im (List.map eI (List.drop (Int.toNat 1) (m.q 6).l)) (m.q 6).c] (.c (OkF.im eI_ok _ _) <| .n) |>.c (p := (.slS 1 (cF 6) (some (cI 1)) none none, (vf 10))) (fun _ _ _ => fSl (sz := 1) (e := eI) (l := (m.q 6).l) (l' := (List.drop (Int.toNat 1) (m.q 6).l)) (b := (m.q 6).c) (b' := (m.q 6).c) (lo := (some ((.int .i64 1), (1 : Int)))) (hi := none) (mx := none) eI_ok (by kernel_rfl) ⟨.i64, by kernel_rfl⟩ trivial trivial (by simp only [optN]; omega) (by simp) (by simp only [optN]; exact drop_full _ _) (by simp [optN]) (by kernel_rfl)); bindE h (fun x14 h14 h => have H := H.t 77 (mdT x14) |>.f 21 (mdF x14) (mdF_ok x14) |>.s [(.agg (vF 0 10 ++ vT 0 32)), (vt 34), (vf 10)] (.agg (vF 11 10 ++ vT 45 32)) (sent_ok h14); H.e [] h))) (fun h12 h => have H := H.m 44 true (nF h12); H.e [] h)))))) (fun _ h => reqE h (fun h8 h => have H := H.t 40 [.bool (decide (x.kind = 1))] |>.r [(.bin .eql (cT 33) (cI 1), (vt 39))] |>.c (p := (.iaA 8 1 (.c (.ptr 0 0)) (cT 34), (.ptr 0 7))) (fun _ _ _ => fIaP (j := 7) (k := .i64) (n := x.a) (by kernel_rfl) h8 (by decide)); iteE h (fun h9 h => have H := H.f 11 [.im (List.map eI (m.q 7).l) true] (.c (OkF.im eI_ok _ _) <| .n) |>.m 39 true (decide_eq_true h9) |>.s [(vf 7)] (vf 10) (clip_ok ((m.q 7).l) (m.q 7).c); reqE h (fun h10 h => have H := H.o 0 (1, List.map eI ((m.q 7).l ++ [x.v])) (.own eI_ok _) |>.a ⟨false, 1, 8, (vf 10), (.im [[(vt 36)]] true), 1000001⟩ (fun _ _ _ => fApp (e := eI) (l := (m.q 7).l) (m := [x.v]) (cb := true) (cx := true) (by kernel_rfl) (by kernel_rfl) (by kernel_rfl) h10 (.inr ⟨rfl, by simp⟩) (by decide) (by decide) (by decide)); bindE h (fun x11 h11 h => have H := H.t 72 (mdT x11) |>.f 21 (mdF x11) (mdF_ok x11) |>.s [(.agg (vF 0 10 ++ vT 0 32)), (vt 34), (vf 1000001)] (.agg (vF 11 10 ++ vT 40 32)) (sent_ok h11); H.e [] h))) (fun h9 h => have H := H.t 41 [.bool (decide (x.kind = 3))] |>.r [(.bin .eql (cT 33) (cI 3), (vt 40))] |>.m 39 false (decide_eq_false h9); iteE h (fun h10 h => have H := H.t 43 [.int .i64 (List.length (m.q 7).l : Int), .bool (decide ((List.length (m.q 7).l : Int) = 0))] |>.r [(.bin .eql (cT 41) (cI 0), (vt 42))] |>.m 40 true (decide_eq_true h10) |>.c (p := (.len 0 (cF 7), (vt 41))) (fun _ _ _ => fLen (e := eI) (l := (m.q 7).l) (b := (m.q 7).c) (by kernel_rfl) (by kernel_rfl)); H.e [] h) (fun h10 h => have H := H.t 43 [.int .i64 (List.length (m.q 7).l : Int), .bool (decide ((List.length (m.q 7).l : Int) = 0))] |>.r [(.bin .eql (cT 41) (cI 0), (vt 42))] |>.m 40 false (decide_eq_false h10) |>.c (p := (.len 0 (cF 7), (vt 41))) (fun _ _ _ => fLen (e := eI) (l := (m.q 7).l) (b := (m.q 7).c) (by kernel_rfl) (by kernel_rfl)); iteE h (fun h11 h => have H := H.m 42 true (decide_eq_true h11); H.e [] h) (fun h11 h => have H := H.m 42 false (decide_eq_false h11); bindE h (fun x12 h12 h => have H := H.t 45 [.int .i64 x12, .bool (!decide (x12 = x.v))] |>.r [(.bin .neq (cT 43) (cT 36), (vt 44))] |>.c (p := (.iaS 1 (cF 7) (cI 0), (.ip [(vt 43)] 0))) (fun _ _ _ => fIa (sz := 1) (e := eI) (l := (m.q 7).l) (b := (m.q 7).c) (k := .i64) (n := 0) (y := x12) eI_ok (by kernel_rfl) (by kernel_rfl) (by decide) h12 (by kernel_rfl)); iteE h (fun h13 h => have H := H.m 44 false (nT h13); reqE h (fun _ h => have H := H.f 11 [.im (List.map eI (List.drop (Int.toNat 1) (m.q 7).l)) (m.q 7).c] (.c (OkF.im eI_ok _ _) <| .n) |>.c (p := (.slS 1 (cF 7) (some (cI 1)) none none, (vf 10))) (fun _ _ _ => fSl (sz := 1) (e := eI) (l := (m.q 7).l) (l' := (List.drop (Int.toNat 1) (m.q 7).l)) (b := (m.q 7).c) (b' := (m.q 7).c) (lo := (some ((.int .i64 1), (1 : Int)))) (hi := none) (mx := none) eI_ok (by kernel_rfl) ⟨.i64, by kernel_rfl⟩ trivial trivial (by simp only [optN]; omega) (by simp) (by simp only [optN]; exact drop_full _ _) (by simp [optN]) (by kernel_rfl)); bindE h (fun x15 h15 h => have H := H.t 77 (mdT x15) |>.f 21 (mdF x15) (mdF_ok x15) |>.s [(.agg (vF 0 10 ++ vT 0 32)), (vt 34), (vf 10)] (.agg (vF 11 10 ++ vT 45 32)) (sent_ok h15); H.e [] h))) (fun h13 h => have H := H.m 44 true (nF h13); H.e [] h)))))))))))))))

def f36 (m : Md) (x : Ev) : Option AV :=
  Option.bind (searchF m.k.l ((unordF x.a).1)) fun x0 =>
  if (!(unordF x.a).2) = true then
    some (.tup [(Md.av m), (.bool false)])
  else
    if x.kind = 5 then
      some (.tup [(Md.av m), (.bool x0.2)])
    else
      if x.kind = 8 then
        some (.tup [(Md.av m), (.bool x0.2)])
      else
        if x.kind = 7 then
          some (.tup [(Md.av m), (.bool (!x0.2))])
        else
          if (!(x0.2 == (decide (x.kind = 6)))) = true then
            some (.tup [(Md.av m), (.bool false)])
          else
            if x0.2 = true then
              Option.bind (cutF m x0.1) fun x7 =>
              some (.tup [(Md.av x7), (.bool true)])
            else
              Option.bind (laidF m ((unordF x.a).1) x.v) fun x7 =>
              some (.tup [(Md.av x7), (.bool true)])
def f36W : List AV := [(.agg (vF 0 10 ++ vT 0 32)), (.agg (vT 32 5))]
def f36V (m : Md) (x : Ev) (σ : Nat → Nat) : Val := (valL (ap (mdT m) ([.int .i64 x.core, .int .i64 x.kind, .int .i64 x.a, .int .i64 x.b, .int .i64 x.v])) (mdF m) [] σ 0)
def f36X (m : Md) (x : Ev) (_σ : Nat → Nat) : List AV := [(Md.av m), (.agg [(.int .i64 x.core), (.int .i64 x.kind), (.int .i64 x.a), (.int .i64 x.b), (.int .i64 x.v)])]
def f36Y (_m : Md) (_x : Ev) (_σ : Nat → Nat) : List Blk := []
theorem f36E (m : Md) (x : Ev) (σ : Nat → Nat) : f36W.map (gm (f36V m x σ)) = f36X m x σ := by kernel_rfl
theorem f36G (m : Md) (x : Ev) (σ : Nat → Nat) : ([] : List Blk).map (gB (f36V m x σ)) = f36Y m x σ := by kernel_rfl
theorem f36_ok (m : Md) (x : Ev) {r0 : AV} (h : f36 m x = some r0) : Spec FF 36 [(Md.av m), (.agg [(.int .i64 x.core), (.int .i64 x.kind), (.int .i64 x.a), (.int .i64 x.b), (.int .i64 x.v)])] r0 := by
  unfold f36 at h
  have hσ : ∀ i j : Nat, (fun i : Nat => i) i = (fun i : Nat => i) j → i = j := fun _ _ e => e
  exact spec_begin (ρ := f36V m x (fun i => i)) (xs := f36W) (by kernel_rfl) rfl rfl (by kernel_rfl) (fun z0 S => have H := Tok.start hσ S 0 37 10 0 (ap (mdT m) ([.int .i64 x.core, .int .i64 x.kind, .int .i64 x.a, .int .i64 x.b, .int .i64 x.v])) (mdF m) [] (mdF_ok m) .n (f36E m x _) (f36G m x _); have H := H.t 39 [.int .i64 (unordF x.a).1, .bool (unordF x.a).2] |>.s [(vt 34)] (.tup [(vt 37), (vt 38)]) (unord_ok x.a); bindE h (fun x0 h0 h => have H := H.t 42 [.int .i64 x0.1, .bool x0.2, .bool (!(unordF x.a).2)] |>.r [(.un .not (cT 38), (vt 41))] |>.s [(vf 8), (vt 37)] (.tup [(vt 39), (vt 40)]) (search_ok m.k.c h0); iteE h (fun h1 h => have H := H.m 41 true h1; H.e [] h) (fun h1 h => have H := H.t 43 [.bool (decide (x.kind = 5))] |>.r [(.bin .eql (cT 33) (cI 5), (vt 42))] |>.m 41 false (bF h1); iteE h (fun h2 h => have H := H.m 42 true (decide_eq_true h2); H.e [] h) (fun h2 h => have H := H.t 44 [.bool (decide (x.kind = 8))] |>.r [(.bin .eql (cT 33) (cI 8), (vt 43))] |>.m 42 false (decide_eq_false h2); iteE h (fun h3 h => have H := H.m 43 true (decide_eq_true h3); H.e [] h) (fun h3 h => have H := H.t 45 [.bool (decide (x.kind = 7))] |>.r [(.bin .eql (cT 33) (cI 7), (vt 44))] |>.m 43 false (decide_eq_false h3); iteE h (fun h4 h => have H := H.t 46 [.bool (!x0.2)] |>.r [(.un .not (cT 40), (vt 45))] |>.m 44 true (decide_eq_true h4); H.e [] h) (fun h4 h => have H := H.t 47 [.bool (decide (x.kind = 6)), .bool (!(x0.2 == (decide (x.kind = 6))))] |>.r [(.bin .eql (cT 33) (cI 6), (vt 45)), (.eqb true (cT 40) (cT 45), (vt 46))] |>.m 44 false (decide_eq_false h4); iteE h (fun h5 h => have H := H.m 46 true h5; H.e [] h) (fun h5 h => have H := H.m 46 false (bF h5); iteE h (fun h6 h => have H := H.m 40 true h6; bindE h (fun x7 h7 h => have H := H.t 79 (mdT x7) |>.f 20 (mdF x7) (mdF_ok x7) |>.s [(.agg (vF 0 10 ++ vT 0 32)), (vt 39)] (.agg (vF 10 10 ++ vT 47 32)) (cut_ok h7); H.e [] h)) (fun h6 h => have H := H.m 40 false (bF h6); bindE h (fun x7 h7 h => have H := H.t 79 (mdT x7) |>.f 20 (mdF x7) (mdF_ok x7) |>.s [(.agg (vF 0 10 ++ vT 0 32)), (vt 37), (vt 36)] (.agg (vF 10 10 ++ vT 47 32)) (laid_ok h7); H.e [] h)))))))))

end Go.Proofs.Hz
