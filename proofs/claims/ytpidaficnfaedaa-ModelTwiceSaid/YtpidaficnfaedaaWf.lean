/-
  Chapter 17: walks through functions (part f), written by a program of our own (wip/tools).
  Conditions: none.
-/
import Derived.Test.YtpidaficnfaedaaWe
open Go Go.Proofs
namespace Go.Proofs.Hz
theorem f35_eq {m : Md} {x : Ev} {y : Md × Bool} (h : portFM m x = some y) : f35 m x = some (.tup [y.1.av, .bool y.2]) := by
  unfold portFM at h
  have hr : roomB = 140737488355328 := rfl
  by_cases ha : 0 ≤ x.a ∧ x.a ≤ 7
  · rw [if_pos ha] at h
    have hb : belowF x.a 8 = true := by simp [belowF]; omega
    obtain ⟨j, hj⟩ : ∃ j : Nat, x.a = j := ⟨x.a.toNat, by omega⟩
    have hj7 : j < 8 := by omega
    rw [hj, Int.toNat_natCast] at h
    -- what one branch is
    have one : ∀ (p : Int) (hp : p = j) (l : List Int) (c : Bool), l = (m.q j).l → c = (m.q j).c → 
        (if x.kind = 1 then
          if (List.length l + List.length [x.v]) * 8 ≤ roomB ∧ List.length l + List.length [x.v] ≤ roomB then Option.bind (sentF m p ⟨(l ++ [x.v]), false⟩) fun x4 => some (AV.tup [(Md.av x4), (.bool true)]) else none
        else
          if x.kind = 3 then some (.tup [(Md.av m), (.bool (decide ((List.length l : Int) = 0)))])
          else
            if (List.length l : Int) = 0 then some (.tup [(Md.av m), (.bool false)])
            else
              Option.bind (l[Int.toNat 0]?) fun x5 =>
              if x5 = x.v then
                if 0 ≤ 1 ∧ 1 ≤ (List.length l : Int) then Option.bind (sentF m p ⟨(List.drop (Int.toNat 1) l), c⟩) fun x8 => some (.tup [(Md.av x8), (.bool true)]) else none
              else
                some (.tup [(Md.av m), (.bool false)])) = some (.tup [y.1.av, .bool y.2]) := by
      intro p hp l c hl hc
      subst hp
      have hs : ∀ z, sentF m (j : Int) z = some (m.setQ j z) := fun z => by unfold sentF; rw [if_pos (by omega), Int.toNat_natCast]
      rw [← hl, ← hc] at h
      by_cases h1 : x.kind = 1
      · rw [if_pos h1] at h ⊢
        split at h
        · rename_i hlen
          cases h
          rw [if_pos (by rw [hr]; simp only [List.length_cons, List.length_nil]; omega), hs]
          rfl
        · cases h
      · rw [if_neg h1] at h ⊢
        by_cases h3 : x.kind = 3
        · rw [if_pos h3] at h ⊢
          cases h
          have e : decide ((List.length l : Int) = 0) = decide (l.length = 0) := by rw [decide_eq_decide]; omega
          rw [e]
        · rw [if_neg h3] at h ⊢
          cases l with
          | nil => cases h; rfl
          | cons z t =>
            simp only at h
            rw [if_neg (by simp only [List.length_cons]; omega)]
            simp only [Int.toNat_zero, List.getElem?_cons_zero, Option.bind_some]
            by_cases hz : z = x.v
            · rw [if_pos hz] at h ⊢
              cases h
              rw [if_pos (by simp only [List.length_cons]; omega), hs]
              rfl
            · rw [if_neg hz] at h ⊢
              cases h; rfl
    unfold f35
    rw [if_neg (by simp [hb])]
    clear h
    rw [hj]
    have hj' : j = 0 ∨ j = 1 ∨ j = 2 ∨ j = 3 ∨ j = 4 ∨ j = 5 ∨ j = 6 ∨ j = 7 := by omega
    rcases hj' with rfl | rfl | rfl | rfl | rfl | rfl | rfl | rfl
    · rw [if_pos (by decide)]; exact one _ rfl _ _ rfl rfl
    · rw [if_neg (by decide), if_pos (by decide)]; exact one _ rfl _ _ rfl rfl
    · rw [if_neg (by decide), if_neg (by decide), if_pos (by decide)]; exact one _ rfl _ _ rfl rfl
    · rw [if_neg (by decide), if_neg (by decide), if_neg (by decide), if_pos (by decide)]; exact one _ rfl _ _ rfl rfl
    · rw [if_neg (by decide), if_neg (by decide), if_neg (by decide), if_neg (by decide), if_pos (by decide)]; exact one _ rfl _ _ rfl rfl
    · rw [if_neg (by decide), if_neg (by decide), if_neg (by decide), if_neg (by decide), if_neg (by decide), if_pos (by decide)]; exact one _ rfl _ _ rfl rfl
    · rw [if_neg (by decide), if_neg (by decide), if_neg (by decide), if_neg (by decide), if_neg (by decide), if_neg (by decide), if_pos (by decide)]; exact one _ rfl _ _ rfl rfl
    · rw [if_neg (by decide), if_neg (by decide), if_neg (by decide), if_neg (by decide), if_neg (by decide), if_neg (by decide), if_neg (by decide), if_pos (by decide)]; exact one _ rfl _ _ rfl rfl
  · rw [if_neg ha] at h
    cases h
    have hb : belowF x.a 8 = false := by simp [belowF]; omega
    unfold f35
    rw [if_pos (by simp [hb])]
theorem f36_eq {m : Md} {x : Ev} {y : Md × Bool} (h : namedFM m x = some y) : f36 m x = some (.tup [y.1.av, .bool y.2]) := by
  unfold namedFM at h
  unfold f36
  cases h0 : searchF m.k.l (unordF x.a).1 with
  | none => rw [h0] at h; cases h
  | some s =>
    rw [h0] at h
    simp only [Option.bind_some] at h ⊢
    by_cases h1 : (unordF x.a).2 = false
    · rw [if_pos h1] at h; cases h; rw [if_pos (by simp [h1])]
    · rw [if_neg h1] at h; rw [if_neg (by simpa using h1)]
      by_cases h2 : x.kind = 5
      · rw [if_pos h2] at h ⊢; cases h; rfl
      · rw [if_neg h2] at h ⊢
        by_cases h3 : x.kind = 8
        · rw [if_pos h3] at h ⊢; cases h; rfl
        · rw [if_neg h3] at h ⊢
          by_cases h4 : x.kind = 7
          · rw [if_pos h4] at h ⊢; cases h; rfl
          · rw [if_neg h4] at h ⊢
            by_cases h5 : s.2 ≠ decide (x.kind = 6)
            · rw [if_pos h5] at h; cases h; rw [if_pos (by simpa using h5)]
            · rw [if_neg h5] at h; rw [if_neg (by simpa using h5)]
              by_cases h6 : s.2 = true
              · rw [if_pos h6] at h ⊢
                cases h7 : cutF m s.1 with
                | none => rw [h7] at h; cases h
                | some z => rw [h7] at h; cases h; rfl
              · rw [if_neg h6] at h ⊢
                cases h7 : laidF m (unordF x.a).1 x.v with
                | none => rw [h7] at h; cases h
                | some z => rw [h7] at h; cases h; rfl
theorem port_ok {m : Md} {x : Ev} {y : Md × Bool} (h : portFM m x = some y) : Spec FF 35 [m.av, x.av] (.tup [y.1.av, .bool y.2]) := f35_ok m x (f35_eq h)
theorem named_ok {m : Md} {x : Ev} {y : Md × Bool} (h : namedFM m x = some y) : Spec FF 36 [m.av, x.av] (.tup [y.1.av, .bool y.2]) := f36_ok m x (f36_eq h)
end Go.Proofs.Hz
open Go Go.Proofs
namespace Go.Proofs.Hz
def f17 (m : Md) (x : Ev) : Option AV :=
  if x.kind = 1 then
    Option.bind (portFM m x) fun x1 =>
    some (.tup [(Md.av x1.1), (.bool x1.2)])
  else
    if x.kind = 2 then
      Option.bind (portFM m x) fun x2 =>
      some (.tup [(Md.av x2.1), (.bool x2.2)])
    else
      if x.kind = 3 then
        Option.bind (portFM m x) fun x3 =>
        some (.tup [(Md.av x3.1), (.bool x3.2)])
      else
        if x.kind = 4 then
          Option.bind (namedFM m x) fun x4 =>
          some (.tup [(Md.av x4.1), (.bool x4.2)])
        else
          if x.kind = 5 then
            Option.bind (namedFM m x) fun x5 =>
            some (.tup [(Md.av x5.1), (.bool x5.2)])
          else
            if x.kind = 6 then
              Option.bind (namedFM m x) fun x6 =>
              some (.tup [(Md.av x6.1), (.bool x6.2)])
            else
              if x.kind = 7 then
                Option.bind (namedFM m x) fun x7 =>
                some (.tup [(Md.av x7.1), (.bool x7.2)])
              else
                if x.kind = 8 then
                  Option.bind (namedFM m x) fun x8 =>
                  some (.tup [(Md.av x8.1), (.bool x8.2)])
                else
                  if x.kind = 9 then
                    some (.tup [(Md.av m), (.bool true)])
                  else
                    if x.kind < 10 then
                      some (.tup [(Md.av m), (.bool false)])
                    else
                      if x.kind > 12 then
                        some (.tup [(Md.av m), (.bool false)])
                      else
                        if (!(belowF x.a 16)) = true then
                          some (.tup [(Md.av m), (.bool false)])
                        else
                          if x.kind = 12 then
                            Option.bind (testedF m x.a) fun x13 =>
                            if x13.2 = x.v then
                              some (.tup [(Md.av x13.1), (.bool true)])
                            else
                              some (.tup [(Md.av m), (.bool false)])
                          else
                            if x.a = 0 then
                              some (.tup [(Md.av (Md.setE m 0 (decide (x.kind = 10)))), (.bool true)])
                            else
                              if x.a = 1 then
                                some (.tup [(Md.av (Md.setE m 1 (decide (x.kind = 10)))), (.bool true)])
                              else
                                if x.a = 2 then
                                  some (.tup [(Md.av (Md.setE m 2 (decide (x.kind = 10)))), (.bool true)])
                                else
                                  if x.a = 3 then
                                    some (.tup [(Md.av (Md.setE m 3 (decide (x.kind = 10)))), (.bool true)])
                                  else
                                    if x.a = 4 then
                                      some (.tup [(Md.av (Md.setE m 4 (decide (x.kind = 10)))), (.bool true)])
                                    else
                                      if x.a = 5 then
                                        some (.tup [(Md.av (Md.setE m 5 (decide (x.kind = 10)))), (.bool true)])
                                      else
                                        if x.a = 6 then
                                          some (.tup [(Md.av (Md.setE m 6 (decide (x.kind = 10)))), (.bool true)])
                                        else
                                          if x.a = 7 then
                                            some (.tup [(Md.av (Md.setE m 7 (decide (x.kind = 10)))), (.bool true)])
                                          else
                                            if x.a = 8 then
                                              some (.tup [(Md.av (Md.setE m 8 (decide (x.kind = 10)))), (.bool true)])
                                            else
                                              if x.a = 9 then
                                                some (.tup [(Md.av (Md.setE m 9 (decide (x.kind = 10)))), (.bool true)])
                                              else
                                                if x.a = 10 then
                                                  some (.tup [(Md.av (Md.setE m 10 (decide (x.kind = 10)))), (.bool true)])
                                                else
                                                  if x.a = 11 then
                                                    some (.tup [(Md.av (Md.setE m 11 (decide (x.kind = 10)))), (.bool true)])
                                                  else
                                                    if x.a = 12 then
                                                      some (.tup [(Md.av (Md.setE m 12 (decide (x.kind = 10)))), (.bool true)])
                                                    else
                                                      if x.a = 13 then
                                                        some (.tup [(Md.av (Md.setE m 13 (decide (x.kind = 10)))), (.bool true)])
                                                      else
                                                        if x.a = 14 then
                                                          some (.tup [(Md.av (Md.setE m 14 (decide (x.kind = 10)))), (.bool true)])
                                                        else
                                                          if x.a = 15 then some (.tup [(Md.av (Md.setE m 15 (decide (x.kind = 10)))), (.bool true)]) else none
def f17W : List AV := [(.agg (vF 0 10 ++ vT 0 32)), (.agg (vT 32 5))]
def f17V (m : Md) (x : Ev) (σ : Nat → Nat) : Val := (valL (ap (mdT m) ([.int .i64 x.core, .int .i64 x.kind, .int .i64 x.a, .int .i64 x.b, .int .i64 x.v])) (mdF m) [] σ 0)
def f17X (m : Md) (x : Ev) (_σ : Nat → Nat) : List AV := [(Md.av m), (.agg [(.int .i64 x.core), (.int .i64 x.kind), (.int .i64 x.a), (.int .i64 x.b), (.int .i64 x.v)])]
def f17Y (_m : Md) (_x : Ev) (_σ : Nat → Nat) : List Blk := []
theorem f17E (m : Md) (x : Ev) (σ : Nat → Nat) : f17W.map (gm (f17V m x σ)) = f17X m x σ := by kernel_rfl
theorem f17G (m : Md) (x : Ev) (σ : Nat → Nat) : ([] : List Blk).map (gB (f17V m x σ)) = f17Y m x σ := by kernel_rfl
set_option maxHeartbeats 10000000 in
theorem f17_ok (m : Md) (x : Ev) {r0 : AV} (h : f17 m x = some r0) : Spec FF 17 [(Md.av m), (.agg [(.int .i64 x.core), (.int .i64 x.kind), (.int .i64 x.a), (.int .i64 x.b), (.int .i64 x.v)])] r0 := by
  unfold f17 at h
  have hσ : ∀ i j : Nat, (fun i : Nat => i) i = (fun i : Nat => i) j → i = j := fun _ _ e => e
  exact spec_begin (ρ := f17V m x (fun i => i)) (xs := f17W) (by kernel_rfl) rfl rfl (by kernel_rfl) (fun z0 S => have H := Tok.start hσ S 0 37 10 0 (ap (mdT m) ([.int .i64 x.core, .int .i64 x.kind, .int .i64 x.a, .int .i64 x.b, .int .i64 x.v])) (mdF m) [] (mdF_ok m) .n (f17E m x _) (f17G m x _); have H := H.t 38 [.bool (decide (x.kind = 1))] |>.r [(.bin .eql (cT 33) (cI 1), (vt 37))]; iteE h (fun h0 h => have H := H.m 37 true (decide_eq_true h0); bindE h (fun x1 h1 h => have H := H.t 70 (mdT x1.1) |>.t 71 [.bool x1.2] |>.f 20 (mdF x1.1) (mdF_ok x1.1) |>.s [(.agg (vF 0 10 ++ vT 0 32)), (.agg (vT 32 5))] (.tup [(.agg (vF 10 10 ++ vT 38 32)), (vt 70)]) (port_ok h1); H.e [] h)) (fun h0 h => have H := H.t 39 [.bool (decide (x.kind = 2))] |>.r [(.bin .eql (cT 33) (cI 2), (vt 38))] |>.m 37 false (decide_eq_false h0); iteE h (fun h1 h => have H := H.m 38 true (decide_eq_true h1); bindE h (fun x2 h2 h => have H := H.t 71 (mdT x2.1) |>.t 72 [.bool x2.2] |>.f 20 (mdF x2.1) (mdF_ok x2.1) |>.s [(.agg (vF 0 10 ++ vT 0 32)), (.agg (vT 32 5))] (.tup [(.agg (vF 10 10 ++ vT 39 32)), (vt 71)]) (port_ok h2); H.e [] h)) (fun h1 h => have H := H.t 40 [.bool (decide (x.kind = 3))] |>.r [(.bin .eql (cT 33) (cI 3), (vt 39))] |>.m 38 false (decide_eq_false h1); iteE h (fun h2 h => have H := H.m 39 true (decide_eq_true h2); bindE h (fun x3 h3 h => have H := H.t 72 (mdT x3.1) |>.t 73 [.bool x3.2] |>.f 20 (mdF x3.1) (mdF_ok x3.1) |>.s [(.agg (vF 0 10 ++ vT 0 32)), (.agg (vT 32 5))] (.tup [(.agg (vF 10 10 ++ vT 40 32)), (vt 72)]) (port_ok h3); H.e [] h)) (fun h2 h => have H := H.t 41 [.bool (decide (x.kind = 4))] |>.r [(.bin .eql (cT 33) (cI 4), (vt 40))] |>.m 39 false (decide_eq_false h2); iteE h (fun h3 h => have H := H.m 40 true (decide_eq_true h3); bindE h (fun x4 h4 h => have H := H.t 73 (mdT x4.1) |>.t 74 [.bool x4.2] |>.f 20 (mdF x4.1) (mdF_ok x4.1) |>.s [(.agg (vF 0 10 ++ vT 0 32)), (.agg (vT 32 5))] (.tup [(.agg (vF 10 10 ++ vT 41 32)), (vt 73)]) (named_ok h4); H.e [] h)) (fun h3 h => have H := H.t 42 [.bool (decide (x.kind = 5))] |>.r [(.bin .eql (cT 33) (cI 5), (vt 41))] |>.m 40 false (decide_eq_false h3); iteE h (fun h4 h => have H := H.m 41 true (decide_eq_true h4); bindE h (fun x5 h5 h => have H := H.t 74 (mdT x5.1) |>.t 75 [.bool x5.2] |>.f 20 (mdF x5.1) (mdF_ok x5.1) |>.s [(.agg (vF 0 10 ++ vT 0 32)), (.agg (vT 32 5))] (.tup [(.agg (vF 10 10 ++ vT 42 32)), (vt 74)]) (named_ok h5); H.e [] h)) (fun h4 h => have H := H.t 43 [.bool (decide (x.kind = 6))] |>.r [(.bin .eql (cT 33) (cI 6), (vt 42))] |>.m 41 false (decide_eq_false h4); iteE h (fun h5 h => have H := H.m 42 true (decide_eq_true h5); bindE h (fun x6 h6 h => have H := H.t 75 (mdT x6.1) |>.t 76 [.bool x6.2] |>.f 20 (mdF x6.1) (mdF_ok x6.1) |>.s [(.agg (vF 0 10 ++ vT 0 32)), (.agg (vT 32 5))] (.tup [(.agg (vF 10 10 ++ vT 43 32)), (vt 75)]) (named_ok h6); H.e [] h)) (fun h5 h => have H := H.t 44 [.bool (decide (x.kind = 7))] |>.r [(.bin .eql (cT 33) (cI 7), (vt 43))] |>.m 42 false (decide_eq_false h5); iteE h (fun h6 h => have H := H.m 43 true (decide_eq_true h6); bindE h (fun x7 h7 h => have H := H.t 76 (mdT x7.1) |>.t 77 [.bool x7.2] |>.f 20 (mdF x7.1) (mdF_ok x7.1) |>.s [(.agg (vF 0 10 ++ vT 0 32)), (.agg (vT 32 5))] (.tup [(.agg (vF 10 10 ++ vT 44 32)), (vt 76)]) (named_ok h7); H.e [] h)) (fun h6 h => have H := H.t 45 [.bool (decide (x.kind = 8))] |>.r [(.bin .eql (cT 33) (cI 8), (vt 44))] |>.m 43 false (decide_eq_false h6); iteE h (fun h7 h => have H := H.m 44 true (decide_eq_true h7); bindE h (fun x8 h8 h => have H := H.t 77 (mdT x8.1) |>.t 78 [.bool x8.2] |>.f 20 (mdF x8.1) (mdF_ok x8.1) |>.s [(.agg (vF 0 10 ++ vT 0 32)), (.agg (vT 32 5))] (.tup [(.agg (vF 10 10 ++ vT 45 32)), (vt 77)]) (named_ok h8); H.e [] h)) (fun h7 h => have H := H.t 46 [.bool (decide (x.kind = 9))] |>.r [(.bin .eql (cT 33) (cI 9), (vt 45))] |>.m 44 false (decide_eq_false h7); iteE h (fun h8 h => have H := H.m 45 true (decide_eq_true h8); H.e [] h) (fun h8 h => have H := H.t 47 [.bool (decide (x.kind < 10))] |>.r [(.bin .lss (cT 33) (cI 10), (vt 46))] |>.m 45 false (decide_eq_false h8); iteE h (fun h9 h => have H := H.m 46 true (decide_eq_true h9); H.e [] h) (fun h9 h => have H := H.t 48 [.bool (decide (x.kind > 12))] |>.r [(.bin .gtr (cT 33) (cI 12), (vt 47))] |>.m 46 false (decide_eq_false h9); iteE h (fun h10 h => have H := H.m 47 true (decide_eq_true h10); H.e [] h) (fun h10 h => have H := H.t 50 [.bool (belowF x.a 16), .bool (!(belowF x.a 16))] |>.r [(.un .not (cT 48), (vt 49))] |>.m 47 false (decide_eq_false h10) |>.s [(vt 34), (.int .i64 16)] (vt 48) (belowF_ok x.a 16); iteE h (fun h11 h => have H := H.m 49 true h11; H.e [] h) (fun h11 h => have H := H.t 51 [.bool (!decide (x.kind = 12))] |>.r [(.bin .neq (cT 33) (cI 12), (vt 50))] |>.m 49 false (bF h11); iteE h (fun h12 h => have H := H.m 50 false (nT h12); bindE h (fun x13 h13 h => have H := H.t 83 (mdT x13.1) |>.t 85 [.int .i64 x13.2, .bool (!decide (x13.2 = x.v))] |>.f 20 (mdF x13.1) (mdF_ok x13.1) |>.r [(.bin .neq (cT 83) (cT 36), (vt 84))] |>.s [(.agg (vF 0 10 ++ vT 0 32)), (vt 34)] (.tup [(.agg (vF 10 10 ++ vT 51 32)), (vt 83)]) (tested_ok h13); iteE h (fun h14 h => have H := H.m 84 false (nT h14); H.e [] h) (fun h14 h => have H := H.m 84 true (nF h14); H.e [] h))) (fun h12 h => have H := H.t 52 [.bool (decide (x.kind = 10))] |>.r [(.bin .eql (cT 33) (cI 10), (vt 51))] |>.m 50 true (nF h12); iteE h (fun h13 h => have H := H.c (p := (.iaA 16 1 (.c (.ptr 0 10)) (cT 34), (.ptr 0 10))) (fun _ _ _ => fIaP (j := 0) (k := .i64) (n := x.a) (by kernel_rfl) h13 (by decide)); H.e [] h) (fun _ h => iteE h (fun h14 h => have H := H.c (p := (.iaA 16 1 (.c (.ptr 0 10)) (cT 34), (.ptr 0 11))) (fun _ _ _ => fIaP (j := 1) (k := .i64) (n := x.a) (by kernel_rfl) h14 (by decide)); H.e [] h) (fun _ h => iteE h (fun h15 h => have H := H.c (p := (.iaA 16 1 (.c (.ptr 0 10)) (cT 34), (.ptr 0 12))) (fun _ _ _ => fIaP (j := 2) (k := .i64) (n := x.a) (by kernel_rfl) h15 (by decide)); H.e [] h) (fun _ h => iteE h (fun h16 h => have H := H.c (p := (.iaA 16 1 (.c (.ptr 0 10)) (cT 34), (.ptr 0 13))) (fun _ _ _ => fIaP (j := 3) (k := .i64) (n := x.a) (by kernel_rfl) h16 (by decide)); H.e [] h) (fun _ h => iteE h (fun h17 h => have H := H.c (p := (.iaA 16 1 (.c (.ptr 0 10)) (cT 34), (.ptr 0 14))) (fun _ _ _ => fIaP (j := 4) (k := .i64) (n := x.a) (by kernel_rfl) h17 (by decide)); H.e [] h) (fun _ h => iteE h (fun h18 h => have H := H.c (p := (.iaA 16 1 (.c (.ptr 0 10)) (cT 34), (.ptr 0 15))) (fun _ _ _ => fIaP (j := 5) (k := .i64) (n := x.a) (by kernel_rfl) h18 (by decide)); H.e [] h) (fun _ h => iteE h (fun h19 h => have H := H.c (p := (.iaA 16 1 (.c (.ptr 0 10)) (cT 34), (.ptr 0 16))) (fun _ _ _ => fIaP (j := 6) (k := .i64) (n := x.a) (by kernel_rfl) h19 (by decide)); H.e [] h) (fun _ h => iteE h (fun h20 h => have H := H.c (p := (.iaA 16 1 (.c (.ptr 0 10)) (cT 34), (.ptr 0 17))) (fun _ _ _ => fIaP (j := 7) (k := .i64) (n := x.a) (by kernel_rfl) h20 (by decide)); H.e [] h) (fun _ h => iteE h (fun h21 h => have H := H.c (p := (.iaA 16 1 (.c (.ptr 0 10)) (cT 34), (.ptr 0 18))) (fun _ _ _ => fIaP (j := 8) (k := .i64) (n := x.a) (by kernel_rfl) h21 (by decide)); H.e [] h) (fun _ h => iteE h (fun h22 h => have H := H.c (p := (.iaA 16 1 (.c (.ptr 0 10)) (cT 34), (.ptr 0 19))) (fun _ _ _ => fIaP (j := 9) (k := .i64) (n := x.a) (by kernel_rfl) h22 (by decide)); H.e [] h) (fun _ h => iteE h (fun h23 h => have H := H.c (p := (.iaA 16 1 (.c (.ptr 0 10)) (cT 34), (.ptr 0 20))) (fun _ _ _ => fIaP (j := 10) (k := .i64) (n := x.a) (by kernel_rfl) h23 (by decide)); H.e [] h) (fun _ h => iteE h (fun h24 h => have H := H.c (p := (.iaA 16 1 (.c (.ptr 0 10)) (cT 34), (.ptr 0 21))) (fun _ _ _ => fIaP (j := 11) (k := .i64) (n := x.a) (by kernel_rfl) h24 (by decide)); H.e [] h) (fun _ h => iteE h (fun h25 h => have H := H.c (p := (.iaA 16 1 (.c (.ptr 0 10)) (cT 34), (.ptr 0 22))) (fun _ _ _ => fIaP (j := 12) (k := .i64) (n := x.a) (by kernel_rfl) h25 (by decide)); H.e [] h) (fun _ h => iteE h (fun h26 h => have H := H.c (p := (.iaA 16 1 (.c (.ptr 0 10)) (cT 34), (.ptr 0 23))) (fun _ _ _ => fIaP (j := 13) (k := .i64) (n := x.a) (by kernel_rfl) h26 (by decide)); H.e [] h) (fun _ h => iteE h (fun h27 h => have H := H.c (p := (.iaA 16 1 (.c (.ptr 0 10)) (cT 34), (.ptr 0 24))) (fun _ _ _ => fIaP (j := 14) (k := .i64) (n := x.a) (by kernel_rfl) h27 (by decide)); H.e [] h) (fun _ h => reqE h (fun h28 h => have H := H.c (p := (.iaA 16 1 (.c (.ptr 0 10)) (cT 34), (.ptr 0 25))) (fun _ _ _ => fIaP (j := 15) (k := .i64) (n := x.a) (by kernel_rfl) h28 (by decide)); H.e [] h))))))))))))))))))))))))))))))

end Go.Proofs.Hz
