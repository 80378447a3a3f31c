/-
  'hazellaw17.ModelAgrees' returns true for every model and syscall, and its arguments read afterwards as they read before.
  Conditions: none.
-/
import Derived.Test.YtpidaficnfaedaaWx
import Derived.Test.YtpidaficnfaedaaWi
import Derived.Test.YtpidaficnfaedaaRows
import Derived.Test.YtpidaficnfaedaaN
import Derived.Test.YtpidaficnfaedaaHzRow
open Go Go.Proofs
namespace Go.Proofs.Hz
def f3 (m : Md) (c : Cl) : Option AV :=
  if (!(smallF m)) = true then
    some (.bool true)
  else
    if (!(mayF c)) = true then
      some (.bool true)
    else
      Option.bind (doF m c) fun x2 =>
      if (kindF c.no x2.2.e) = 0 then
        if okM x2.1 = true then if (sameF x2.1 m) = true then
          if c.no = 9 then
            if ((x2.2.v : Int) == 0 && ((x2.2.e : Int) == 0 && true)) = true then
              some (.bool true)
            else
              none
          else
            if c.no = 1 then
              some (.bool ((x2.2.v : Int) == 0 && ((x2.2.e : Int) == 6 && true)))
            else
              none
        else
          none else none
      else
        if c.no ≥ 3 then
          if c.no ≤ 5 then
            if (kindF c.no x2.2.e) = 4 then
              Option.bind (takeFM m (Ev.mk 0 (kindF c.no x2.2.e) (ordF c.a) 0 c.b)) fun x7 =>
              if x7.2 = true then
                if okM x2.1 = true then if (sameF x2.1 x7.1) = true then
                  Option.bind (toldF c x2.2 (Ev.mk 0 (kindF c.no x2.2.e) (ordF c.a) 0 c.b) m) fun x11 =>
                  some (.bool x11)
                else
                  none else none
              else
                none
            else
              Option.bind (takeFM m (Ev.mk 0 (kindF c.no x2.2.e) (ordF c.a) 0 0)) fun x7 =>
              if x7.2 = true then
                if okM x2.1 = true then if (sameF x2.1 x7.1) = true then
                  Option.bind (toldF c x2.2 (Ev.mk 0 (kindF c.no x2.2.e) (ordF c.a) 0 0) m) fun x11 =>
                  some (.bool x11)
                else
                  none else none
              else
                none
          else
            if (kindF c.no x2.2.e) = 3 then
              Option.bind (takeFM m (Ev.mk 0 (kindF c.no x2.2.e) c.a 0 0)) fun x7 =>
              if x7.2 = true then
                if okM x2.1 = true then if (sameF x2.1 x7.1) = true then
                  Option.bind (toldF c x2.2 (Ev.mk 0 (kindF c.no x2.2.e) c.a 0 0) m) fun x11 =>
                  some (.bool x11)
                else
                  none else none
              else
                none
            else
              Option.bind (takeFM m (Ev.mk 0 (kindF c.no x2.2.e) c.a 0 x2.2.v)) fun x7 =>
              if x7.2 = true then
                if okM x2.1 = true then if (sameF x2.1 x7.1) = true then
                  Option.bind (toldF c x2.2 (Ev.mk 0 (kindF c.no x2.2.e) c.a 0 x2.2.v) m) fun x11 =>
                  some (.bool x11)
                else
                  none else none
              else
                none
        else
          if c.no = 0 then
            Option.bind (takeFM m (Ev.mk 0 (kindF c.no x2.2.e) c.a 0 c.b)) fun x6 =>
            if x6.2 = true then
              if okM x2.1 = true then if (sameF x2.1 x6.1) = true then
                Option.bind (toldF c x2.2 (Ev.mk 0 (kindF c.no x2.2.e) c.a 0 c.b) m) fun x10 =>
                some (.bool x10)
              else
                none else none
            else
              none
          else
            if (kindF c.no x2.2.e) = 3 then
              Option.bind (takeFM m (Ev.mk 0 (kindF c.no x2.2.e) c.a 0 0)) fun x7 =>
              if x7.2 = true then
                if okM x2.1 = true then if (sameF x2.1 x7.1) = true then
                  Option.bind (toldF c x2.2 (Ev.mk 0 (kindF c.no x2.2.e) c.a 0 0) m) fun x11 =>
                  some (.bool x11)
                else
                  none else none
              else
                none
            else
              Option.bind (takeFM m (Ev.mk 0 (kindF c.no x2.2.e) c.a 0 x2.2.v)) fun x7 =>
              if x7.2 = true then
                if okM x2.1 = true then if (sameF x2.1 x7.1) = true then
                  Option.bind (toldF c x2.2 (Ev.mk 0 (kindF c.no x2.2.e) c.a 0 x2.2.v) m) fun x11 =>
                  some (.bool x11)
                else
                  none else none
              else
                none
def f3W : List AV := [(.agg (vF 0 10 ++ vT 0 32)), (.agg [(vt 32), (vt 33), (vt 34)])]
def f3V (m : Md) (c : Cl) (σ : Nat → Nat) : Val := (valL (ap (mdT m) ([.int .i64 c.no, .int .i64 c.a, .int .i64 c.b])) (mdF m) [] σ 0)
def f3X (m : Md) (c : Cl) (_σ : Nat → Nat) : List AV := [(Md.av m), (.agg [(.int .i64 c.no), (.int .i64 c.a), (.int .i64 c.b)])]
def f3Y (_m : Md) (_c : Cl) (_σ : Nat → Nat) : List Blk := []
theorem f3E (m : Md) (c : Cl) (σ : Nat → Nat) : f3W.map (gm (f3V m c σ)) = f3X m c σ := by kernel_rfl
theorem f3G (m : Md) (c : Cl) (σ : Nat → Nat) : ([] : List Blk).map (gB (f3V m c σ)) = f3Y m c σ := by kernel_rfl
theorem f3_ok (m : Md) (c : Cl) {r0 : AV} (h : f3 m c = some r0) : Spec FF 3 [(Md.av m), (.agg [(.int .i64 c.no), (.int .i64 c.a), (.int .i64 c.b)])] r0 := by
  unfold f3 at h
  have hσ : ∀ i j : Nat, (fun i : Nat => i) i = (fun i : Nat => i) j → i = j := fun _ _ e => e
  exact spec_begin (ρ := f3V m c (fun i => i)) (xs := f3W) (by kernel_rfl) rfl rfl (by kernel_rfl) (fun z0 S => have H := Tok.start hσ S 0 35 10 0 (ap (mdT m) ([.int .i64 c.no, .int .i64 c.a, .int .i64 c.b])) (mdF m) [] (mdF_ok m) .n (f3E m c _) (f3G m c _); have H := H.t 37 [.bool (smallF m), .bool (!(smallF m))] |>.r [(.un .not (cT 35), (vt 36))] |>.s [] (.bool true) shown_ok |>.s [(.agg (vF 0 10 ++ vT 0 32))] (vt 35) (small_ok m); iteE h (fun h0 h => have H := H.m 36 true h0; H.e [] h) (fun h0 h => have H := H.t 39 [.bool (mayF c), .bool (!(mayF c))] |>.r [(.un .not (cT 37), (vt 38))] |>.m 36 false (bF h0) |>.s [(.agg [(vt 32), (vt 33), (vt 34)])] (vt 37) (mayF_ok c); iteE h (fun h1 h => have H := H.m 38 true h1; H.e [] h) (fun h1 h => have H := H.m 38 false (bF h1); bindE h (fun x2 h2 h => have H := H.t 71 (mdT x2.1) |>.t 75 [.int .i64 x2.2.v, .int .i64 x2.2.e, .int .i64 (kindF c.no x2.2.e), .bool (decide ((kindF c.no x2.2.e) = 0))] |>.f 20 (mdF x2.1) (mdF_ok x2.1) |>.r [(.bin .eql (cT 73) (cI 0), (vt 74))] |>.s [(.agg (vF 0 10 ++ vT 0 32)), (.agg [(vt 32), (vt 33), (vt 34)])] (.tup [(.agg (vF 10 10 ++ vT 39 32)), (.agg [(vt 71), (vt 72)])]) (do_ok h2) |>.s [(.agg [(vt 32), (vt 33), (vt 34)]), (vt 72)] (vt 73) (kind14_ok c x2.2.e); iteE h (fun h3 h => have H := H.m 74 true (decide_eq_true h3); reqE h (fun h4 h => have H := H.t 76 [.bool (sameF x2.1 m)] |>.s [(.agg (vF 10 10 ++ vT 39 32)), (.agg (vF 0 10 ++ vT 0 32))] (vt 75) (same15_ok x2.1 m h4); iteE h (fun h5 h => have H := H.t 77 [.bool (decide (c.no = 9))] |>.r [(.bin .eql (cT 32) (cI 9), (vt 76))] |>.m 75 true h5; iteE h (fun h6 h => have H := H.t 78 [.bool ((x2.2.v : Int) == 0 && ((x2.2.e : Int) == 0 && true))] |>.r [(.eqa false [0, 0] (.c (.agg [(vt 71), (vt 72)])) (.c (.agg [(.int .i64 0), (.int .i64 0)])), (vt 77))] |>.m 76 true (decide_eq_true h6); iteE h (fun h7 h => have H := H.m 77 true h7; H.e [] h) (fun _ h => nomatch h)) (fun h6 h => have H := H.t 78 [.bool (decide (c.no = 1))] |>.r [(.bin .eql (cT 32) (cI 1), (vt 77))] |>.m 76 false (decide_eq_false h6); iteE h (fun h7 h => have H := H.t 79 [.bool ((x2.2.v : Int) == 0 && ((x2.2.e : Int) == 6 && true))] |>.r [(.eqa false [0, 0] (.c (.agg [(vt 71), (vt 72)])) (.c (.agg [(.int .i64 0), (.int .i64 6)])), (vt 78))] |>.m 77 true (decide_eq_true h7); H.e [] h) (fun _ h => nomatch h))) (fun _ h => nomatch h))) (fun h3 h => have H := H.t 76 [.bool (decide (c.no ≥ 3))] |>.r [(.bin .geq (cT 32) (cI 3), (vt 75))] |>.m 74 false (decide_eq_false h3); iteE h (fun h4 h => have H := H.t 77 [.bool (decide (c.no ≤ 5))] |>.r [(.bin .leq (cT 32) (cI 5), (vt 76))] |>.m 75 true (decide_eq_true h4); iteE h (fun h5 h => have H := H.t 79 [.int .i64 (ordF c.a), .bool (decide ((kindF c.no x2.2.e) = 4))] |>.r [(.bin .eql (cT 73) (cI 4), (vt 78))] |>.m 76 true (decide_eq_true h5) |>.s [(vt 33)] (vt 77) (ord16_ok c.a); iteE h (fun h6 h => have H := H.m 78 true (decide_eq_true h6); bindE h (fun x7 h7 h => have H := H.t 111 (mdT x7.1) |>.t 112 [.bool x7.2] |>.f 30 (mdF x7.1) (mdF_ok x7.1) |>.s [(.agg (vF 0 10 ++ vT 0 32)), (.agg [(.int .i64 0), (vt 73), (vt 77), (.int .i64 0), (vt 34)])] (.tup [(.agg (vF 20 10 ++ vT 79 32)), (vt 111)]) (take_ok h7); iteE h (fun h8 h => have H := H.m 111 true h8; reqE h (fun h9 h => have H := H.t 113 [.bool (sameF x2.1 x7.1)] |>.s [(.agg (vF 10 10 ++ vT 39 32)), (.agg (vF 20 10 ++ vT 79 32))] (vt 112) (same15_ok x2.1 x7.1 h9); iteE h (fun h10 h => have H := H.m 112 true h10; bindE h (fun x11 h11 h => have H := H.t 114 [.bool x11] |>.s [(.agg [(vt 32), (vt 33), (vt 34)]), (.agg [(vt 71), (vt 72)]), (.agg [(.int .i64 0), (vt 73), (vt 77), (.int .i64 0), (vt 34)]), (.agg (vF 0 10 ++ vT 0 32))] (vt 113) (told_ok h11); H.e [] h)) (fun _ h => nomatch h))) (fun _ h => nomatch h))) (fun h6 h => have H := H.m 78 false (decide_eq_false h6); bindE h (fun x7 h7 h => have H := H.t 111 (mdT x7.1) |>.t 112 [.bool x7.2] |>.f 30 (mdF x7.1) (mdF_ok x7.1) |>.s [(.agg (vF 0 10 ++ vT 0 32)), (.agg [(.int .i64 0), (vt 73), (vt 77), (.int .i64 0), (.int .i64 0)])] (.tup [(.agg (vF 20 10 ++ vT 79 32)), (vt 111)]) (take_ok h7); iteE h (fun h8 h => have H := H.m 111 true h8; reqE h (fun h9 h => have H := H.t 113 [.bool (sameF x2.1 x7.1)] |>.s [(.agg (vF 10 10 ++ vT 39 32)), (.agg (vF 20 10 ++ vT 79 32))] (vt 112) (same15_ok x2.1 x7.1 h9); iteE h (fun h10 h => have H := H.m 112 true h10; bindE h (fun x11 h11 h => have H := H.t 114 [.bool x11] |>.s [(.agg [(vt 32), (vt 33), (vt 34)]), (.agg [(vt 71), (vt 72)]), (.agg [(.int .i64 0), (vt 73), (vt 77), (.int .i64 0), (.int .i64 0)]), (.agg (vF 0 10 ++ vT 0 32))] (vt 113) (told_ok h11); H.e [] h)) (fun _ h => nomatch h))) (fun _ h => nomatch h)))) (fun h5 h => have H := H.t 79 [.bool (decide (c.no = 0)), .bool (!decide ((kindF c.no x2.2.e) = 3))] |>.r [(.bin .eql (cT 32) (cI 0), (vt 77)), (.bin .neq (cT 73) (cI 3), (vt 78))] |>.m 76 false (decide_eq_false h5) |>.m 77 false (b := (decide (c.no = 0))) (decide_eq_false (by omega)); iteE h (fun h6 h => have H := H.m 78 false (nT h6); bindE h (fun x7 h7 h => have H := H.t 111 (mdT x7.1) |>.t 112 [.bool x7.2] |>.f 30 (mdF x7.1) (mdF_ok x7.1) |>.s [(.agg (vF 0 10 ++ vT 0 32)), (.agg [(.int .i64 0), (vt 73), (vt 33), (.int .i64 0), (.int .i64 0)])] (.tup [(.agg (vF 20 10 ++ vT 79 32)), (vt 111)]) (take_ok h7); iteE h (fun h8 h => have H := H.m 111 true h8; reqE h (fun h9 h => have H := H.t 113 [.bool (sameF x2.1 x7.1)] |>.s [(.agg (vF 10 10 ++ vT 39 32)), (.agg (vF 20 10 ++ vT 79 32))] (vt 112) (same15_ok x2.1 x7.1 h9); iteE h (fun h10 h => have H := H.m 112 true h10; bindE h (fun x11 h11 h => have H := H.t 114 [.bool x11] |>.s [(.agg [(vt 32), (vt 33), (vt 34)]), (.agg [(vt 71), (vt 72)]), (.agg [(.int .i64 0), (vt 73), (vt 33), (.int .i64 0), (.int .i64 0)]), (.agg (vF 0 10 ++ vT 0 32))] (vt 113) (told_ok h11); H.e [] h)) (fun _ h => nomatch h))) (fun _ h => nomatch h))) (fun h6 h => have H := H.m 78 true (nF h6); bindE h (fun x7 h7 h => have H := H.t 111 (mdT x7.1) |>.t 112 [.bool x7.2] |>.f 30 (mdF x7.1) (mdF_ok x7.1) |>.s [(.agg (vF 0 10 ++ vT 0 32)), (.agg [(.int .i64 0), (vt 73), (vt 33), (.int .i64 0), (vt 71)])] (.tup [(.agg (vF 20 10 ++ vT 79 32)), (vt 111)]) (take_ok h7); iteE h (fun h8 h => have H := H.m 111 true h8; reqE h (fun h9 h => have H := H.t 113 [.bool (sameF x2.1 x7.1)] |>.s [(.agg (vF 10 10 ++ vT 39 32)), (.agg (vF 20 10 ++ vT 79 32))] (vt 112) (same15_ok x2.1 x7.1 h9); iteE h (fun h10 h => have H := H.m 112 true h10; bindE h (fun x11 h11 h => have H := H.t 114 [.bool x11] |>.s [(.agg [(vt 32), (vt 33), (vt 34)]), (.agg [(vt 71), (vt 72)]), (.agg [(.int .i64 0), (vt 73), (vt 33), (.int .i64 0), (vt 71)]), (.agg (vF 0 10 ++ vT 0 32))] (vt 113) (told_ok h11); H.e [] h)) (fun _ h => nomatch h))) (fun _ h => nomatch h))))) (fun h4 h => have H := H.t 77 [.bool (decide (c.no = 0))] |>.r [(.bin .eql (cT 32) (cI 0), (vt 76))] |>.m 75 false (decide_eq_false h4); iteE h (fun h5 h => have H := H.m 76 true (decide_eq_true h5); bindE h (fun x6 h6 h => have H := H.t 109 (mdT x6.1) |>.t 110 [.bool x6.2] |>.f 30 (mdF x6.1) (mdF_ok x6.1) |>.s [(.agg (vF 0 10 ++ vT 0 32)), (.agg [(.int .i64 0), (vt 73), (vt 33), (.int .i64 0), (vt 34)])] (.tup [(.agg (vF 20 10 ++ vT 77 32)), (vt 109)]) (take_ok h6); iteE h (fun h7 h => have H := H.m 109 true h7; reqE h (fun h8 h => have H := H.t 111 [.bool (sameF x2.1 x6.1)] |>.s [(.agg (vF 10 10 ++ vT 39 32)), (.agg (vF 20 10 ++ vT 77 32))] (vt 110) (same15_ok x2.1 x6.1 h8); iteE h (fun h9 h => have H := H.m 110 true h9; bindE h (fun x10 h10 h => have H := H.t 112 [.bool x10] |>.s [(.agg [(vt 32), (vt 33), (vt 34)]), (.agg [(vt 71), (vt 72)]), (.agg [(.int .i64 0), (vt 73), (vt 33), (.int .i64 0), (vt 34)]), (.agg (vF 0 10 ++ vT 0 32))] (vt 111) (told_ok h10); H.e [] h)) (fun _ h => nomatch h))) (fun _ h => nomatch h))) (fun h5 h => have H := H.t 78 [.bool (!decide ((kindF c.no x2.2.e) = 3))] |>.r [(.bin .neq (cT 73) (cI 3), (vt 77))] |>.m 76 false (decide_eq_false h5); iteE h (fun h6 h => have H := H.m 77 false (nT h6); bindE h (fun x7 h7 h => have H := H.t 110 (mdT x7.1) |>.t 111 [.bool x7.2] |>.f 30 (mdF x7.1) (mdF_ok x7.1) |>.s [(.agg (vF 0 10 ++ vT 0 32)), (.agg [(.int .i64 0), (vt 73), (vt 33), (.int .i64 0), (.int .i64 0)])] (.tup [(.agg (vF 20 10 ++ vT 78 32)), (vt 110)]) (take_ok h7); iteE h (fun h8 h => have H := H.m 110 true h8; reqE h (fun h9 h => have H := H.t 112 [.bool (sameF x2.1 x7.1)] |>.s [(.agg (vF 10 10 ++ vT 39 32)), (.agg (vF 20 10 ++ vT 78 32))] (vt 111) (same15_ok x2.1 x7.1 h9); iteE h (fun h10 h => have H := H.m 111 true h10; bindE h (fun x11 h11 h => have H := H.t 113 [.bool x11] |>.s [(.agg [(vt 32), (vt 33), (vt 34)]), (.agg [(vt 71), (vt 72)]), (.agg [(.int .i64 0), (vt 73), (vt 33), (.int .i64 0), (.int .i64 0)]), (.agg (vF 0 10 ++ vT 0 32))] (vt 112) (told_ok h11); H.e [] h)) (fun _ h => nomatch h))) (fun _ h => nomatch h))) (fun h6 h => have H := H.m 77 true (nF h6); bindE h (fun x7 h7 h => have H := H.t 110 (mdT x7.1) |>.t 111 [.bool x7.2] |>.f 30 (mdF x7.1) (mdF_ok x7.1) |>.s [(.agg (vF 0 10 ++ vT 0 32)), (.agg [(.int .i64 0), (vt 73), (vt 33), (.int .i64 0), (vt 71)])] (.tup [(.agg (vF 20 10 ++ vT 78 32)), (vt 110)]) (take_ok h7); iteE h (fun h8 h => have H := H.m 110 true h8; reqE h (fun h9 h => have H := H.t 112 [.bool (sameF x2.1 x7.1)] |>.s [(.agg (vF 10 10 ++ vT 39 32)), (.agg (vF 20 10 ++ vT 78 32))] (vt 111) (same15_ok x2.1 x7.1 h9); iteE h (fun h10 h => have H := H.m 111 true h10; bindE h (fun x11 h11 h => have H := H.t 113 [.bool x11] |>.s [(.agg [(vt 32), (vt 33), (vt 34)]), (.agg [(vt 71), (vt 72)]), (.agg [(.int .i64 0), (vt 73), (vt 33), (.int .i64 0), (vt 71)]), (.agg (vF 0 10 ++ vT 0 32))] (vt 112) (told_ok h11); H.e [] h)) (fun _ h => nomatch h))) (fun _ h => nomatch h))))))))))

end Go.Proofs.Hz
open Go Go.Proofs
namespace Go.Proofs.Hz
/-- The event tells the same model, and told the syscall. -/
def AgT (m : Md) (c : Cl) (a : Md) (r : Rs) (x : Ev) : Prop := takeFM m x = some (a, true) ∧ toldF c r x m = some true
/-- What a syscall does, and by which event. -/
inductive AgR (m : Md) (c : Cl) : Md → Rs → Prop
  | none9 : c.no = 9 → AgR m c m ⟨0, 0⟩
  | none1 : c.no = 1 → AgR m c m ⟨0, 6⟩
  | send (a r) : c.no = 0 → kindF c.no r.e = 1 → AgT m c a r ⟨0, 1, c.a, 0, c.b⟩ → AgR m c a r
  | recv (a r K) : c.no = 1 ∨ c.no = 2 → kindF c.no r.e = K → K = 2 → AgT m c a r ⟨0, K, c.a, 0, r.v⟩ → AgR m c a r
  | empty (a r) : c.no = 2 → kindF c.no r.e = 3 → AgT m c a r ⟨0, 3, c.a, 0, 0⟩ → AgR m c a r
  | ins (a r) : c.no = 3 → kindF c.no r.e = 4 → AgT m c a r ⟨0, 4, ordF c.a, 0, c.b⟩ → AgR m c a r
  | name (a r K) : 3 ≤ c.no ∧ c.no ≤ 5 → kindF c.no r.e = K → 5 ≤ K ∧ K ≤ 8 → AgT m c a r ⟨0, K, ordF c.a, 0, 0⟩ → AgR m c a r
  | event (a r K) : 6 ≤ c.no ∧ c.no ≤ 8 → kindF c.no r.e = K → 10 ≤ K ∧ K ≤ 12 → AgT m c a r ⟨0, K, c.a, 0, r.v⟩ → AgR m c a r
theorem agree {m : Md} (S : Small m) {c : Cl} (hm : mayF c = true) : ∃ a r, doF m c = some (a, r) ∧ Few a ∧ AgR m c a r := by
  have F := S.few
  have hk := S.k
  have hv := S.v
  have hmay := (may_iff c).1 hm
  have hse := search_eq S.up (l := m.k.l) (by omega) c.a
  have told : ∀ (r : Rs) (x : Ev), kindF c.no r.e ≠ 0 → kindF c.no r.e = x.kind → toldF c r x m = 
      if c.no = 0 then some (decide (x.a = c.a ∧ x.v = c.b))
      else if c.no = 3 then some (decide (x.a = ordF c.a ∧ (x.kind = 5 ∨ x.v = c.b)))
      else if c.no = 4 ∨ c.no = 5 then
        if x.a = ordF c.a then
          if x.kind = 7 then some true
          else if decide (c.a ∈ m.k.l) then (m.v.l[((lbF m.k.l c.a : Int)).toNat]?).bind fun v => some (decide (r.v = v)) else some false
        else some false
      else if c.no = 1 ∨ c.no = 2 then some (decide (x.a = c.a ∧ (x.kind = 3 ∨ r.v = x.v)))
      else if c.no = 8 then some (decide (x.a = c.a ∧ r.v = x.v))
      else some (decide (x.a = c.a)) := fun r x h0 h1 => by
    unfold toldF
    rw [if_neg (by omega), hse]
    rfl
  have named : 3 ≤ c.no ∧ c.no ≤ 5 → ∀ (k v : Int), 4 ≤ k ∧ k ≤ 8 → takeFM m ⟨0, k, ordF c.a, 0, v⟩ = 
      if k = 5 then some (m, decide (c.a ∈ m.k.l))
      else if k = 8 then some (m, decide (c.a ∈ m.k.l))
      else if k = 7 then some (m, !decide (c.a ∈ m.k.l))
      else if decide (c.a ∈ m.k.l) ≠ decide (k = 6) then some (m, false)
      else if decide (c.a ∈ m.k.l) then (cutF m (lbF m.k.l c.a : Int)).bind fun y => some (y, true)
      else (laidF m c.a v).bind fun y => some (y, true) := fun hn k v hk => by
    unfold takeFM
    rw [if_neg (by simp only; omega), if_pos (by simp only; omega)]
    unfold namedFM
    simp only [unord_ord (n := c.a) (by omega), hse, Option.bind_some, Bool.true_eq_false, if_false]
  unfold doF
  rw [if_pos hm, hse]
  simp only [Option.bind_some]
  by_cases h0 : c.no = 0
  · have hq := S.q c.a.toNat (by omega)
    rw [if_pos h0, if_pos (by omega)]
    have hK : kindF c.no (Rs.mk 0 0).e = 1 := by rw [h0]; rfl
    refine ⟨_, _, rfl, setQ_few S (by simp; omega), .send _ _ h0 hK ⟨?_, ?_⟩⟩
    · unfold takeFM portFM
      rw [if_pos (by simp only; omega), if_pos (by simp only; omega), if_pos rfl, if_pos (by simp only; omega)]
    · rw [told _ _ (by rw [hK]; decide) (by rw [hK]), if_pos h0]; simp
  rw [if_neg h0]
  by_cases h12 : c.no = 1 ∨ c.no = 2
  · rw [if_pos h12]
    have hq := S.q c.a.toNat (by omega)
    cases hl : (m.q c.a.toNat).l with
    | nil =>
      rcases h12 with h1 | h2
      · simp only [h1, if_true]
        exact ⟨_, _, rfl, F, .none1 h1⟩
      · rw [if_neg (by omega)]
        have hK : kindF c.no (Rs.mk 0 3).e = 3 := by rw [h2]; rfl
        refine ⟨_, _, rfl, F, .empty _ _ h2 hK ⟨?_, ?_⟩⟩
        · unfold takeFM portFM
          rw [if_pos (by simp only; omega), if_pos (by simp only; omega), if_neg (by simp only; omega), if_pos rfl]
          simp [hl]
        · rw [told _ _ (by rw [hK]; decide) (by rw [hK]), if_neg h0, if_neg (by omega), if_neg (by omega), if_pos (.inr h2)]; simp
    | cons y t =>
      rw [hl] at hq
      have hK : kindF c.no (Rs.mk y 0).e = 2 := by rcases h12 with h | h <;> rw [h] <;> rfl
      refine ⟨_, _, rfl, setQ_few S (by show t.length ≤ 100; simp at hq; omega), .recv _ _ 2 h12 hK rfl ⟨?_, ?_⟩⟩
      · unfold takeFM portFM
        rw [if_pos (by simp only; omega), if_pos (by simp only; omega), if_neg (by simp only; omega), if_neg (by simp only; omega)]
        simp only [hl, if_true]
      · rw [told _ _ (by rw [hK]; decide) (by rw [hK]), if_neg h0, if_neg (by omega), if_neg (by omega), if_pos h12]; simp
  rw [if_neg h12]
  by_cases h3 : c.no = 3
  · rw [if_pos h3]
    by_cases hin : c.a ∈ m.k.l
    · rw [if_pos (by simpa using hin)]
      have hK : kindF c.no (Rs.mk 0 4).e = 5 := by rw [h3]; rfl
      refine ⟨_, _, rfl, F, .name _ _ 5 (by omega) hK (by omega) ⟨?_, ?_⟩⟩
      · rw [named (by omega) _ _ (by omega), if_pos rfl]; simp [hin]
      · rw [told _ _ (by rw [hK]; decide) (by rw [hK]), if_neg h0, if_pos h3]; simp
    · rw [if_neg (by simpa using hin)]
      obtain ⟨y, hy, hf⟩ := laid_few (v := c.b) S (n := c.a) (by omega) hin
      rw [hy]
      have hK : kindF c.no (Rs.mk 0 0).e = 4 := by rw [h3]; rfl
      refine ⟨_, _, rfl, hf, .ins _ _ h3 hK ⟨?_, ?_⟩⟩
      · rw [named (by omega) _ _ (by omega), if_neg (by omega), if_neg (by omega), if_neg (by omega), if_neg (by simp [hin]), if_neg (by simp [hin]), hy]; rfl
      · rw [told _ _ (by rw [hK]; decide) (by rw [hK]), if_neg h0, if_pos h3]; simp
  rw [if_neg h3]
  have hget : c.a ∈ m.k.l → ∃ v, m.v.l[(lbF m.k.l c.a : Int).toNat]? = some v := fun hin => by
    obtain ⟨hlt, _⟩ := (mem_lb S.up).1 hin
    exact ⟨_, List.getElem?_eq_getElem (by omega)⟩
  by_cases h4 : c.no = 4
  · rw [if_pos h4]
    by_cases hin : c.a ∈ m.k.l
    · rw [if_pos (by simpa using hin)]
      obtain ⟨v, hv'⟩ := hget hin
      rw [hv']
      have hK : kindF c.no (Rs.mk v 0).e = 8 := by rw [h4]; rfl
      refine ⟨_, _, rfl, F, .name _ _ 8 (by omega) hK (by omega) ⟨?_, ?_⟩⟩
      · rw [named (by omega) _ _ (by omega), if_neg (by omega), if_pos rfl]; simp [hin]
      · rw [told _ _ (by rw [hK]; decide) (by rw [hK]), if_neg h0, if_neg h3, if_pos (.inl h4), if_pos rfl, if_neg (by simp only; omega), if_pos (by simpa using hin), hv']; simp
    · rw [if_neg (by simpa using hin)]
      have hK : kindF c.no (Rs.mk 0 3).e = 7 := by rw [h4]; rfl
      refine ⟨_, _, rfl, F, .name _ _ 7 (by omega) hK (by omega) ⟨?_, ?_⟩⟩
      · rw [named (by omega) _ _ (by omega), if_neg (by omega), if_neg (by omega), if_pos rfl]; simp [hin]
      · rw [told _ _ (by rw [hK]; decide) (by rw [hK]), if_neg h0, if_neg h3, if_pos (.inl h4), if_pos rfl, if_pos rfl]
  rw [if_neg h4]
  by_cases h5 : c.no = 5
  · rw [if_pos h5]
    by_cases hin : c.a ∈ m.k.l
    · rw [if_pos (by simpa using hin)]
      obtain ⟨v, hv'⟩ := hget hin
      obtain ⟨y, hy, hf⟩ := cut_few S ((mem_lb S.up).1 hin).1
      rw [hv', hy]
      have hK : kindF c.no (Rs.mk v 0).e = 6 := by rw [h5]; rfl
      refine ⟨_, _, rfl, hf, .name _ _ 6 (by omega) hK (by omega) ⟨?_, ?_⟩⟩
      · rw [named (by omega) _ _ (by omega), if_neg (by omega), if_neg (by omega), if_neg (by omega), if_neg (by simp [hin]), if_pos (by simp [hin]), hy]; rfl
      · rw [told _ _ (by rw [hK]; decide) (by rw [hK]), if_neg h0, if_neg h3, if_pos (.inr h5), if_pos rfl, if_neg (by simp only; omega), if_pos (by simpa using hin), hv']; simp
    · rw [if_neg (by simpa using hin)]
      have hK : kindF c.no (Rs.mk 0 3).e = 7 := by rw [h5]; rfl
      refine ⟨_, _, rfl, F, .name _ _ 7 (by omega) hK (by omega) ⟨?_, ?_⟩⟩
      · rw [named (by omega) _ _ (by omega), if_neg (by omega), if_neg (by omega), if_pos rfl]; simp [hin]
      · rw [told _ _ (by rw [hK]; decide) (by rw [hK]), if_neg h0, if_neg h3, if_pos (.inr h5), if_pos rfl, if_pos rfl]
  rw [if_neg h5]
  have event : 6 ≤ c.no ∧ c.no ≤ 8 → ∀ (k v : Int), 10 ≤ k ∧ k ≤ 12 → takeFM m ⟨0, k, c.a, 0, v⟩ = 
      if k = 12 then (testedF m c.a).bind fun t => if t.2 = v then some (t.1, true) else some (m, false)
      else some (m.setE c.a.toNat (decide (k = 10)), true) := fun hn k v hk => by
    unfold takeFM
    rw [if_neg (by simp only; omega), if_neg (by simp only; omega), if_neg (by simp only; omega), if_neg (by simp only; omega), if_pos (by simp only; omega)]
  by_cases h6 : c.no = 6
  · rw [if_pos h6]
    have hK : kindF c.no (Rs.mk 0 0).e = 10 := by rw [h6]; rfl
    refine ⟨_, _, rfl, setE_few F, .event _ _ 10 (by omega) hK (by omega) ⟨?_, ?_⟩⟩
    · rw [event (by omega) _ _ (by omega), if_neg (by omega)]; simp
    · rw [told _ _ (by rw [hK]; decide) (by rw [hK]), if_neg h0, if_neg h3, if_neg (by omega), if_neg (by omega), if_neg (by omega)]; simp
  rw [if_neg h6]
  by_cases h7 : c.no = 7
  · rw [if_pos h7]
    have hK : kindF c.no (Rs.mk 0 0).e = 11 := by rw [h7]; rfl
    refine ⟨_, _, rfl, setE_few F, .event _ _ 11 (by omega) hK (by omega) ⟨?_, ?_⟩⟩
    · rw [event (by omega) _ _ (by omega), if_neg (by omega)]; simp
    · rw [told _ _ (by rw [hK]; decide) (by rw [hK]), if_neg h0, if_neg h3, if_neg (by omega), if_neg (by omega), if_neg (by omega)]; simp
  rw [if_neg h7]
  by_cases h8 : c.no = 8
  · rw [if_pos h8]
    have ht : testedF m c.a = some (m.setE c.a.toNat (m.e c.a.toNat && !(m.s c.a.toNat)), if m.e c.a.toNat then 1 else 0) := by unfold testedF; rw [if_pos (by omega)]
    rw [ht]
    have hK : ∀ v, kindF c.no (Rs.mk v 0).e = 12 := fun v => by rw [h8]; rfl
    refine ⟨_, _, rfl, setE_few F, .event _ _ 12 (by omega) (hK _) (by omega) ⟨?_, ?_⟩⟩
    · rw [event (by omega) _ _ (by omega), if_pos rfl, ht]; simp
    · rw [told _ _ (by rw [hK]; decide) (by rw [hK]), if_neg h0, if_neg h3, if_neg (by omega), if_neg (by omega), if_pos h8]; simp
  · rw [if_neg h8]
    have h9 : c.no = 9 := by omega
    exact ⟨_, _, rfl, F, .none9 h9⟩
theorem agrees_law {m : Md} {c : Cl} : f3 m c = some (.bool true) := by
  unfold f3
  by_cases hsm : smallF m = true
  rotate_left 1
  · rw [if_pos (by simpa using hsm)]
  rw [if_neg (by simp [hsm])]
  by_cases hm : mayF c = true
  rotate_left 1
  · rw [if_pos (by simpa using hm)]
  rw [if_neg (by simp [hm])]
  obtain ⟨a, r, hd, hf, hr⟩ := agree (small_of hsm) hm
  rw [hd]
  simp only [Option.bind_some]
  have hok := hf.ok
  have tail : ∀ x, AgT m c a r x → (Option.bind (takeFM m x) fun x7 =>
      if x7.2 = true then
        if okM a = true then if (sameF a x7.1) = true then
          Option.bind (toldF c r x m) fun x11 =>
          some (AV.bool x11)
        else
          none else none
      else
        none) = some (.bool true) := fun x hx => by
    rw [hx.1, hx.2]
    simp only [Option.bind_some, if_true]
    rw [if_pos hok, if_pos (sameF_refl a)]
  cases hr with
  | none9 h =>
    have hK : kindF c.no 0 = 0 := by rw [h]; rfl
    rw [if_pos hK, if_pos hok, if_pos (sameF_refl _), if_pos h]
    rfl
  | none1 h =>
    have hK : kindF c.no 6 = 0 := by rw [h]; rfl
    rw [if_pos hK, if_pos hok, if_pos (sameF_refl _), if_neg (by omega), if_pos h]
    rfl
  | send a r h hK hT =>
    rw [hK, if_neg (by decide), if_neg (by omega), if_pos h]
    exact tail _ hT
  | recv a r K h hK h2 hT =>
    subst h2
    rw [hK, if_neg (by decide), if_neg (by omega), if_neg (by omega), if_neg (by decide)]
    exact tail _ hT
  | empty a r h hK hT =>
    rw [hK, if_neg (by decide), if_neg (by omega), if_neg (by omega), if_pos rfl]
    exact tail _ hT
  | ins a r h hK hT =>
    rw [hK, if_neg (by decide), if_pos (by omega), if_pos (by omega), if_pos rfl]
    exact tail _ hT
  | name a r K h hK h2 hT =>
    rw [hK, if_neg (by omega), if_pos (by omega), if_pos (by omega), if_neg (by omega)]
    exact tail _ hT
  | event a r K h hK h2 hT =>
    rw [hK, if_neg (by omega), if_pos (by omega), if_neg (by omega), if_neg (by omega)]
    exact tail _ hT
theorem agrees_ok (m : Md) (c : Cl) : Spec FF 3 [m.av, c.av] (.bool true) := f3_ok m c agrees_law
end Go.Proofs.Hz
namespace Go.Proofs.Ytpidaficnfaedaa
open Go.ChangeShapes Go.WideShapes Go.ChangeAt Go.RowKit Go.Proofs.Hz

theorem own : ownKnob Try.prog.godebug = none := by kernel_rfl
theorem laidOut : laidOutB Try.prog = true := by kernel_rfl
theorem u3 : Try.prog.underlying 3 = some (.int .i64) := by kernel_rfl
theorem u4 : Try.prog.underlying 4 = some .bool := by kernel_rfl
theorem u22 : Try.prog.underlying 22 = some (.slice 3) := by kernel_rfl
theorem u23 : Try.prog.underlying 23 = some (.array 8 22) := by kernel_rfl
theorem u24 : Try.prog.underlying 24 = some (.array 16 4) := by kernel_rfl
theorem u46 : Try.prog.underlying 46 = some (.int .u16) := by kernel_rfl
theorem u26 : ∃ fs : Array Field, Try.prog.underlying 26 = some (.struct fs) ∧ fs.toList.map (·.type) = [23, 22, 22, 24, 24] := ⟨_, rfl, by kernel_rfl⟩

theorem row_of {n : Nat} {xs : List AV} (h : SH Try.prog (n + 2) 22 xs) : ∃ x : Sl, xs = [x.av] := by
  unfold SH at h
  rw [u22] at h
  obtain ⟨els, c, rfl, _, he⟩ := h
  obtain ⟨l, rfl, _⟩ := ints_of u3 he
  exact ⟨⟨l, c⟩, rfl⟩
theorem bool_of {n : Nat} {xs : List AV} (h : SH Try.prog (n + 1) 4 xs) : ∃ b, xs = [.bool b] := by
  unfold SH at h
  rw [u4] at h
  exact h
theorem rows8 {n : Nat} : ∀ {parts : List (List AV)}, (∀ p ∈ parts, SH Try.prog (n + 2) 22 p) → ∃ l : List Sl, parts = l.map (fun x => [x.av])
  | [], _ => ⟨[], rfl⟩
  | p :: ps, h => by
    obtain ⟨l, rfl⟩ := rows8 fun q hq => h q (List.mem_cons_of_mem _ hq)
    obtain ⟨x, rfl⟩ := row_of (h p (List.mem_cons_self ..))
    exact ⟨x :: l, rfl⟩
theorem bools16 {n : Nat} : ∀ {parts : List (List AV)}, (∀ p ∈ parts, SH Try.prog (n + 1) 4 p) → ∃ l : List Bool, parts = l.map (fun x => [.bool x])
  | [], _ => ⟨[], rfl⟩
  | p :: ps, h => by
    obtain ⟨l, rfl⟩ := bools16 fun q hq => h q (List.mem_cons_of_mem _ hq)
    obtain ⟨x, rfl⟩ := bool_of (h p (List.mem_cons_self ..))
    exact ⟨x :: l, rfl⟩
theorem arr8 {n : Nat} {xs : List AV} (h : SH Try.prog (n + 3) 23 xs) : ∃ q : Nat → Sl, xs = [(q 0).av, (q 1).av, (q 2).av, (q 3).av, (q 4).av, (q 5).av, (q 6).av, (q 7).av] := by
  unfold SH at h
  rw [u23] at h
  obtain ⟨parts, rfl, hl, hp⟩ := h
  obtain ⟨l, rfl⟩ := rows8 hp
  simp only [List.length_map] at hl
  match l, hl with
  | [a, b, c, d, e, f, g, i], _ => exact ⟨fun j => [a, b, c, d, e, f, g, i].getD j default, rfl⟩
theorem arr16 {n : Nat} {xs : List AV} (h : SH Try.prog (n + 2) 24 xs) : ∃ e : Nat → Bool, xs = [.bool (e 0), .bool (e 1), .bool (e 2), .bool (e 3), .bool (e 4), .bool (e 5), .bool (e 6), .bool (e 7), .bool (e 8), .bool (e 9), .bool (e 10), .bool (e 11), .bool (e 12), .bool (e 13), .bool (e 14), .bool (e 15)] := by
  unfold SH at h
  rw [u24] at h
  obtain ⟨parts, rfl, hl, hp⟩ := h
  obtain ⟨l, rfl⟩ := bools16 hp
  simp only [List.length_map] at hl
  match l, hl with
  | [a0, a1, a2, a3, a4, a5, a6, a7, a8, a9, a10, a11, a12, a13, a14, a15], _ => exact ⟨fun j => [a0, a1, a2, a3, a4, a5, a6, a7, a8, a9, a10, a11, a12, a13, a14, a15].getD j false, rfl⟩
theorem model_of {n : Nat} {xs : List AV} (h : SH Try.prog (n + 4) 26 xs) : ∃ m : Md, xs = m.cells := by
  obtain ⟨fs, hu, hf⟩ := u26
  unfold SH at h
  rw [hu] at h
  obtain ⟨parts, rfl, hl, hp⟩ := h
  have hfs : ∀ i t, [23, 22, 22, 24, 24][i]? = some t → ∃ f : Field, fs[i]? = some f ∧ f.type = t := fun i t ht => by
    rw [← hf, List.getElem?_map, Option.map_eq_some_iff] at ht
    obtain ⟨f, h1, h2⟩ := ht
    exact ⟨f, by rwa [Array.getElem?_toList] at h1, h2⟩
  have h5 : parts.length = 5 := by
    have := congrArg List.length hf
    simp at this
    omega
  match parts, h5 with
  | [p0, p1, p2, p3, p4], _ =>
    have get : ∀ i t p, [23, 22, 22, 24, 24][i]? = some t → [p0, p1, p2, p3, p4][i]? = some p → SH Try.prog (n + 3) t p := fun i t p ht hq => by
      obtain ⟨f, h1, h2⟩ := hfs i t ht
      rw [← h2]; exact hp i f p h1 hq
    obtain ⟨q, rfl⟩ := arr8 (get 0 23 p0 rfl rfl)
    obtain ⟨k, rfl⟩ := row_of (get 1 22 p1 rfl rfl)
    obtain ⟨v, rfl⟩ := row_of (get 2 22 p2 rfl rfl)
    obtain ⟨e, rfl⟩ := arr16 (get 3 24 p3 rfl rfl)
    obtain ⟨s, rfl⟩ := arr16 (get 4 24 p4 rfl rfl)
    exact ⟨⟨q, k, v, e, s⟩, rfl⟩
theorem argV26 (xs : List AV) : argV Try.prog 26 xs = .agg xs := by
  obtain ⟨fs, hu, _⟩ := u26
  unfold argV; rw [hu]
/-- A model, as an argument. -/
theorem arg_model {H : Type} {enc : TypeId × Value → H} {w : World} {v : Value} {d : DataW H} {ps : List MemPlace} {base : Nat} (hval : Value.okWide Try.prog w .any base 26 v) (h : DataW.Trod enc Try.prog w 0 (fun _ => true) true 26 v d ps) :
    ∃ m : Md, R (fun b => b < w.heap.size) w Ids.none Ren.none m.av v := by
  obtain ⟨xs, hS, hR⟩ := arg_abs (n := 6) (by kernel_rfl) hval h
  obtain ⟨m, rfl⟩ := model_of hS
  rw [argV26] at hR
  exact ⟨m, hR⟩


theorem u27 : ∃ fs : Array Field, Try.prog.underlying 28 = some (.struct fs) ∧ fs.toList.map (·.type) = [3, 3, 3] := ⟨_, rfl, by kernel_rfl⟩
theorem u40 : ∃ fs : Array Field, Try.prog.underlying 40 = some (.struct fs) ∧ fs.toList.map (·.type) = [3, 3, 3, 3, 3] := ⟨_, rfl, by kernel_rfl⟩
theorem int_of {n : Nat} {xs : List AV} (h : SH Try.prog (n + 1) 3 xs) : ∃ m, xs = [.int .i64 m] ∧ -9223372036854775808 ≤ m ∧ m ≤ 9223372036854775807 := by
  unfold SH at h
  rw [u3] at h
  obtain ⟨m, rfl, hw⟩ := h
  exact ⟨m, rfl, bounds_i64 hw⟩
theorem parts_of {n t : Nat} {xs : List AV} {fs : Array Field} {ts : List Nat} (hu : Try.prog.underlying t = some (.struct fs)) (hf : fs.toList.map (·.type) = ts) (h : SH Try.prog (n + 1) t xs) :
    ∃ parts : List (List AV), xs = parts.flatten ∧ parts.length = ts.length ∧ ∀ (i : Nat) (u : Nat) (p : List AV), ts[i]? = some u → parts[i]? = some p → SH Try.prog n u p := by
  unfold SH at h
  rw [hu] at h
  obtain ⟨parts, rfl, hl, hp⟩ := h
  refine ⟨parts, rfl, by rw [hl, ← hf]; simp, fun i u p hi hq => ?_⟩
  rw [← hf, List.getElem?_map, Option.map_eq_some_iff] at hi
  obtain ⟨f, h1, h2⟩ := hi
  rw [← h2]
  exact hp i f p (by rwa [Array.getElem?_toList] at h1) hq
theorem call_of {n : Nat} {xs : List AV} (h : SH Try.prog (n + 2) 28 xs) : ∃ c : Cl, xs = [.int .i64 c.no, .int .i64 c.a, .int .i64 c.b] ∧ (-9223372036854775808 ≤ c.b ∧ c.b ≤ 9223372036854775807) := by
  obtain ⟨fs, hu, hf⟩ := u27
  obtain ⟨parts, rfl, hl, hp⟩ := parts_of hu hf h
  match parts, hl with
  | [p0, p1, p2], _ =>
    obtain ⟨a, rfl, _⟩ := int_of (hp 0 3 p0 rfl rfl)
    obtain ⟨b, rfl, _⟩ := int_of (hp 1 3 p1 rfl rfl)
    obtain ⟨c, rfl, hc⟩ := int_of (hp 2 3 p2 rfl rfl)
    exact ⟨⟨a, b, c⟩, rfl, hc⟩
theorem ev_of {n : Nat} {xs : List AV} (h : SH Try.prog (n + 2) 40 xs) : ∃ x : Ev, xs = [.int .i64 x.core, .int .i64 x.kind, .int .i64 x.a, .int .i64 x.b, .int .i64 x.v] := by
  obtain ⟨fs, hu, hf⟩ := u40
  obtain ⟨parts, rfl, hl, hp⟩ := parts_of hu hf h
  match parts, hl with
  | [p0, p1, p2, p3, p4], _ =>
    obtain ⟨a, rfl, _⟩ := int_of (hp 0 3 p0 rfl rfl)
    obtain ⟨b, rfl, _⟩ := int_of (hp 1 3 p1 rfl rfl)
    obtain ⟨c, rfl, _⟩ := int_of (hp 2 3 p2 rfl rfl)
    obtain ⟨d, rfl, _⟩ := int_of (hp 3 3 p3 rfl rfl)
    obtain ⟨e, rfl, _⟩ := int_of (hp 4 3 p4 rfl rfl)
    exact ⟨⟨a, b, c, d, e⟩, rfl⟩
theorem arg_call {H : Type} {enc : TypeId × Value → H} {w : World} {v : Value} {d : DataW H} {ps : List MemPlace} {base : Nat} (hval : Value.okWide Try.prog w .any base 28 v) (h : DataW.Trod enc Try.prog w 0 (fun _ => true) true 28 v d ps) :
    ∃ c : Cl, R (fun b => b < w.heap.size) w Ids.none Ren.none c.av v ∧ (-9223372036854775808 ≤ c.b ∧ c.b ≤ 9223372036854775807) := by
  obtain ⟨xs, hS, hR⟩ := arg_abs (n := 4) (by kernel_rfl) hval h
  obtain ⟨c, rfl, hc⟩ := call_of hS
  obtain ⟨fs, hu, _⟩ := u27
  unfold argV at hR
  rw [hu] at hR
  exact ⟨c, hR, hc⟩
theorem arg_ev {H : Type} {enc : TypeId × Value → H} {w : World} {v : Value} {d : DataW H} {ps : List MemPlace} {base : Nat} (hval : Value.okWide Try.prog w .any base 40 v) (h : DataW.Trod enc Try.prog w 0 (fun _ => true) true 40 v d ps) :
    ∃ x : Ev, R (fun b => b < w.heap.size) w Ids.none Ren.none x.av v := by
  obtain ⟨xs, hS, hR⟩ := arg_abs (n := 4) (by kernel_rfl) hval h
  obtain ⟨x, rfl⟩ := ev_of hS
  obtain ⟨fs, hu, _⟩ := u40
  unfold argV at hR
  rw [hu] at hR
  exact ⟨x, hR⟩
/-- A model of nothing, as a value. -/
def nilMd : Value := .agg #[.slice none 0 0, .slice none 0 0, .slice none 0 0, .slice none 0 0, .slice none 0 0, .slice none 0 0, .slice none 0 0, .slice none 0 0, .slice none 0 0, .slice none 0 0,
  .bool false, .bool false, .bool false, .bool false, .bool false, .bool false, .bool false, .bool false, .bool false, .bool false, .bool false, .bool false, .bool false, .bool false, .bool false, .bool false,
  .bool false, .bool false, .bool false, .bool false, .bool false, .bool false, .bool false, .bool false, .bool false, .bool false, .bool false, .bool false, .bool false, .bool false, .bool false, .bool false]
end Go.Proofs.Ytpidaficnfaedaa
namespace Go.Proofs.Ytpidaficnfaedaa
open Go.ChangeShapes Go.WideShapes Go.ChangeAt Go.RowKit Go.Proofs.Hz
set_option maxRecDepth 100000 in
theorem agrees_lifted (os : Os) (started : os.Started) (H : Type) (enc : TypeId × Value → H) :
    ReturnsInHanded {} Try.checked os 3 .any (Rows.modelAgreesSpec.pre6 enc Try.prog Try.f3 Rows.modelAgreesRow.domain false) (Rows.modelAgreesSpec.post enc Try.prog Try.f3 false true false false) := by
  refine returnsInHanded_of_change (C := Try.checked) own started (by kernel_rfl) Try.func3
    (ChangeSpec.witness6 (enc := enc) (C := Try.checked) false ⟨#[], #[nilMd, .agg #[.int .i64 0, .int .i64 0, .int .i64 0]], []⟩ 8 (by kernel_rfl) (by kernel_rfl) (by kernel_rfl) (by kernel_rfl)) ?_
  intro W base args ds gs before hval0 hW hcnd _
  have hval : ∀ (j : Nat) t v, Try.f3.params[j]? = some t → args[j]? = some v → Value.okWide Try.prog W .any base t v := hval0
  have hW' := hW
  obtain ⟨p, q, hA0, hV, rfl, hfz, hnd⟩ := hW
  have hA : DataW.TrodAll enc Try.prog W 0 (fun _ => true) true Try.f3.params.toList args.toList ds p := hA0
  have hA1 := hA
  rw [Try.params3] at hA hval
  obtain ⟨v0, v1, d0, d1, p0, p1, rfl, rfl, rfl, h0, h1⟩ := trodAll_two hA
  obtain ⟨rfl, rfl⟩ := trodVars_none hV
  obtain ⟨m, hm⟩ := arg_model (hval 0 26 v0 rfl rfl) h0
  obtain ⟨c, hc, _⟩ := arg_call (hval 1 28 v1 rfl rfl) h1
  simp only [List.append_nil] at hW'
  refine (law_calls (pu := puN) (F := FF) (fun f af h => h) (agrees_ok m c) (RL.cons hm (RL.cons hc RL.nil))).mono fun e W' ⟨he, hw⟩ => ?_
  subst he
  exact ⟨_, rfl, law_post (P := Try.prog) laidOut rfl hW' (by simpa using hA1) rfl (by kernel_rfl) rfl u4 hw⟩

theorem agrees_holds : Rows.ModelAgreesSaid :=
  OpenClaim.holds_of_wide 3 Try.f3 rfl rfl rfl rfl rfl rfl rfl ⟨rfl, rfl, rfl, rfl, rfl⟩ rfl rfl rfl rfl rfl (by kernel_rfl) Try.func3 (by kernel_rfl)
    (of_decide_eq_true (by kernel_rfl)) (by unfold Func.isWrapper; first | (rw [if_pos (by decide +kernel)]; kernel_rfl) | (rw [if_neg (by decide +kernel)]; exact ⟨rfl, rfl⟩))
    (fun os started H enc _ => agrees_lifted os started H enc)
end Go.Proofs.Ytpidaficnfaedaa
