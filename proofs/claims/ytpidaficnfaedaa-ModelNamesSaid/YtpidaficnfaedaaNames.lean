/-
  'hazellaw17.ModelNames' returns true for every model, name and value, and its arguments read afterwards as they read before.
  Conditions: none.
-/
import Derived.Test.YtpidaficnfaedaaWf
import Derived.Test.YtpidaficnfaedaaRows
import Derived.Test.YtpidaficnfaedaaHzRow
open Go Go.Proofs
namespace Go.Proofs.Hz
theorem f17_eq {m : Md} {x : Ev} {y : Md × Bool} (h : takeFM m x = some y) : f17 m x = some (.tup [y.1.av, .bool y.2]) := by
  unfold takeFM at h
  have fin : ∀ {o : Option (Md × Bool)}, o = some y → (o.bind fun z => some (AV.tup [(Md.av z.1), (.bool z.2)])) = some (.tup [y.1.av, .bool y.2]) := fun h => by rw [h]; rfl
  unfold f17
  by_cases h1 : 1 ≤ x.kind ∧ x.kind ≤ 3
  · rw [if_pos h1] at h
    have : x.kind = 1 ∨ x.kind = 2 ∨ x.kind = 3 := by omega
    rcases this with e | e | e
    · rw [if_pos e]; exact fin h
    · rw [if_neg (by omega), if_pos e]; exact fin h
    · rw [if_neg (by omega), if_neg (by omega), if_pos e]; exact fin h
  rw [if_neg h1] at h
  rw [if_neg (by omega), if_neg (by omega), if_neg (by omega)]
  by_cases h2 : 4 ≤ x.kind ∧ x.kind ≤ 8
  · rw [if_pos h2] at h
    have : x.kind = 4 ∨ x.kind = 5 ∨ x.kind = 6 ∨ x.kind = 7 ∨ x.kind = 8 := by omega
    rcases this with e | e | e | e | e
    · rw [if_pos e]; exact fin h
    · rw [if_neg (by omega), if_pos e]; exact fin h
    · rw [if_neg (by omega), if_neg (by omega), if_pos e]; exact fin h
    · rw [if_neg (by omega), if_neg (by omega), if_neg (by omega), if_pos e]; exact fin h
    · rw [if_neg (by omega), if_neg (by omega), if_neg (by omega), if_neg (by omega), if_pos e]; exact fin h
  rw [if_neg h2] at h
  rw [if_neg (by omega), if_neg (by omega), if_neg (by omega), if_neg (by omega), if_neg (by omega)]
  by_cases h3 : x.kind = 9
  · rw [if_pos h3] at h ⊢; cases h; rfl
  rw [if_neg h3] at h ⊢
  by_cases h4 : x.kind < 10
  · rw [if_pos (.inl h4)] at h; cases h; rw [if_pos h4]
  by_cases h5 : x.kind > 12
  · rw [if_pos (.inr h5)] at h; cases h; rw [if_neg h4, if_pos h5]
  rw [if_neg (by omega)] at h
  rw [if_neg h4, if_neg h5]
  by_cases ha : 0 ≤ x.a ∧ x.a ≤ 15
  · have hb : belowF x.a 16 = true := by simp [belowF]; omega
    rw [if_pos ha] at h
    rw [if_neg (by simp [hb])]
    by_cases h6 : x.kind = 12
    · rw [if_pos h6] at h ⊢
      cases ht : testedF m x.a with
      | none => rw [ht] at h; cases h
      | some t =>
        rw [ht] at h
        simp only [Option.bind_some] at h ⊢
        split at h
        · rename_i e; cases h; rw [if_pos e]
        · rename_i e; cases h; rw [if_neg e]
    · rw [if_neg h6] at h ⊢
      cases h
      obtain ⟨j, hj⟩ : ∃ j : Nat, x.a = j := ⟨x.a.toNat, by omega⟩
      have hj15 : j = 0 ∨ j = 1 ∨ j = 2 ∨ j = 3 ∨ j = 4 ∨ j = 5 ∨ j = 6 ∨ j = 7 ∨ j = 8 ∨ j = 9 ∨ j = 10 ∨ j = 11 ∨ j = 12 ∨ j = 13 ∨ j = 14 ∨ j = 15 := by omega
      rw [hj]
      rcases hj15 with rfl | rfl | rfl | rfl | rfl | rfl | rfl | rfl | rfl | rfl | rfl | rfl | rfl | rfl | rfl | rfl <;> simp
  · have hb : belowF x.a 16 = false := by simp [belowF]; omega
    rw [if_neg ha] at h
    cases h
    rw [if_pos (by simp [hb])]
theorem take_ok {m : Md} {x : Ev} {y : Md × Bool} (h : takeFM m x = some y) : Spec FF 17 [m.av, x.av] (.tup [y.1.av, .bool y.2]) := f17_ok m x (f17_eq h)
end Go.Proofs.Hz
open Go Go.Proofs
namespace Go.Proofs.Hz
def f9 (m : Md) (name : Int) (v : Int) : Option AV :=
  if (!(smallF m)) = true then
    some (.bool true)
  else
    Option.bind (takeFM m (Ev.mk 0 5 (ordF (IntKind.wrap .i64 name)) 0 0)) fun x1 =>
    Option.bind (takeFM m (Ev.mk 0 7 (ordF (IntKind.wrap .i64 name)) 0 0)) fun x2 =>
    Option.bind (takeFM m (Ev.mk 0 4 (ordF (IntKind.wrap .i64 name)) 0 v)) fun x3 =>
    Option.bind (takeFM x3.1 (Ev.mk 0 4 (ordF (IntKind.wrap .i64 name)) 0 v)) fun x4 =>
    Option.bind (takeFM x3.1 (Ev.mk 0 6 (ordF (IntKind.wrap .i64 name)) 0 0)) fun x5 =>
    Option.bind (takeFM x5.1 (Ev.mk 0 6 (ordF (IntKind.wrap .i64 name)) 0 0)) fun x6 =>
    Option.bind (takeFM m (Ev.mk 0 7 (w64 ((ordF (IntKind.wrap .i64 name)) - 1)) 0 0)) fun x7 =>
    if (x1.2 == x2.2) = true then
      some (.bool false)
    else
      if (!(x3.2 == x2.2)) = true then
        some (.bool false)
      else
        if x4.2 = true then
          some (.bool false)
        else
          if (!x5.2) = true then
            some (.bool false)
          else
            if x6.2 = true then
              some (.bool false)
            else
              if x7.2 = true then
                some (.bool false)
              else
                if (!x3.2) = true then
                  some (.bool true)
                else
                  if okM x5.1 = true then some (.bool (sameF x5.1 m)) else none
def f9W : List AV := [(.agg (vF 0 10 ++ vT 0 32)), (.var true 32), (.var true 33)]
def f9V (m : Md) (name : Int) (v : Int) (σ : Nat → Nat) : Val := (valL (ap (mdT m) ([.int .u16 name, .int .i64 v])) (mdF m) [] σ 0)
def f9X (m : Md) (name : Int) (v : Int) (_σ : Nat → Nat) : List AV := [(Md.av m), (.int .u16 name), (.int .i64 v)]
def f9Y (_m : Md) (_name : Int) (_v : Int) (_σ : Nat → Nat) : List Blk := []
theorem f9E (m : Md) (name : Int) (v : Int) (σ : Nat → Nat) : f9W.map (gm (f9V m name v σ)) = f9X m name v σ := by kernel_rfl
theorem f9G (m : Md) (name : Int) (v : Int) (σ : Nat → Nat) : ([] : List Blk).map (gB (f9V m name v σ)) = f9Y m name v σ := by kernel_rfl
def f9_p0V (m : Md) (name : Int) (v : Int) (σ : Nat → Nat) : Val := (valL (ap (mdT m) ([.int .u16 name, .int .i64 v, .bool (smallF m), .bool (!(smallF m))])) (mdF m) [] σ 0)
def f9_p0F : Facts := ⟨(List.append (α := AOp × AV) [(.un .not (.c (.var true 34)), (.var true 35))] [(.mov (.c (.var true 35)), (.bool true))]), [], [], [(10, [], (.bool true)), (11, [(.agg (vF 0 10 ++ vT 0 32))], (.var true 34))]⟩
theorem f9_p0Q : endS (fnOf FF 9) (stepK f9_p0F FF [] 4000 [] (.code (fnOf FF 9).body) (tmpl (List.range f9W.length) f9W [])) = some (.bool true) := by kernel_rfl
theorem f9_p0 (m : Md) (name : Int) (v : Int) (h0 : (!(smallF m)) = true) {z0 : St} {σ : Nat → Nat} (hσ : ∀ i j, σ i = σ j → i = j) (S : Sim (f9V m name v σ) (tmpl (List.range f9W.length) f9W []) z0) : J FF (fnOf FF 9) [] (.code (fnOf FF 9).body) z0 (.bool true) :=
  jR (R := gm (f9_p0V m name v σ) (.bool true)) (by kernel_rfl) (J_end (show Hold FF (f9_p0V m name v σ) f9_p0F from ⟨(valL_good hσ (AllP.ap (mdT_ok m) (.c (.int _ _) <| .c (.int _ _) <| .c (.bool _) <| .c (.bool _) <| .n)) (mdF_ok m) (.n)),
    holdF_of (AllP.append (rflF fun _ => by kernel_rfl) (.c (fT (by kernel_rfl) h0) <| .n)),
    holdA_of (.n),
    holdN_of (.n),
    holdS_of (.c (sC shown_ok (by kernel_rfl) (by kernel_rfl)) <| .c (sC (small_ok m) (by kernel_rfl) (by kernel_rfl)) <| .n)⟩) (S.more (ρ' := (f9_p0V m name v σ)) (s0 := σ) (n0 := 0) rfl rfl rfl rfl (f9E m name v σ) (f9G m name v σ) (by kernel_rfl) (by kernel_rfl)) f9_p0Q)
def f9_p1V (m : Md) (name : Int) (v : Int) (x1 : Md × Bool) (x2 : Md × Bool) (x3 : Md × Bool) (x4 : Md × Bool) (x5 : Md × Bool) (x6 : Md × Bool) (x7 : Md × Bool) (σ : Nat → Nat) : Val := (valL (ap (mdT m) (ap ([.int .u16 name, .int .i64 v, .bool (smallF m), .bool (!(smallF m)), .int .i64 (IntKind.wrap .i64 name), .int .i64 (ordF (IntKind.wrap .i64 name))]) (ap (mdT x1.1) (ap ([.bool x1.2]) (ap (mdT x2.1) (ap ([.bool x2.2]) (ap (mdT x3.1) (ap ([.bool x3.2]) (ap (mdT x4.1) (ap ([.bool x4.2]) (ap (mdT x5.1) (ap ([.bool x5.2]) (ap (mdT x6.1) (ap ([.bool x6.2, .int .i64 (w64 ((ordF (IntKind.wrap .i64 name)) - 1))]) (ap (mdT x7.1) ([.bool x7.2, .bool (x1.2 == x2.2)])))))))))))))))) (ap (mdF m) (ap (mdF x1.1) (ap (mdF x2.1) (ap (mdF x3.1) (ap (mdF x4.1) (ap (mdF x5.1) (ap (mdF x6.1) (mdF x7.1)))))))) [] σ 0)
def f9_p1F : Facts := ⟨(List.append (α := AOp × AV) [(.un .not (.c (.var true 34)), (.var true 35)), (.conv .i64 (.c (.var true 32)), (.var true 36)), (.bin .sub (.c (.var true 37)) (.c (.int .i64 1)), (.var true 236)), (.eqb false (.c (.var true 70)) (.c (.var true 103)), (.var true 270))] [(.mov (.c (.var true 35)), (.bool false)), (.mov (.c (.var true 270)), (.bool true))]), [], [], [(10, [], (.bool true)), (11, [(.agg (vF 0 10 ++ vT 0 32))], (.var true 34)), (16, [(.var true 36)], (.var true 37)), (17, [(.agg (vF 0 10 ++ vT 0 32)), (.agg [(.int .i64 0), (.int .i64 5), (.var true 37), (.int .i64 0), (.int .i64 0)])], (.tup [(.agg (vF 10 10 ++ vT 38 32)), (.var true 70)])), (17, [(.agg (vF 0 10 ++ vT 0 32)), (.agg [(.int .i64 0), (.int .i64 7), (.var true 37), (.int .i64 0), (.int .i64 0)])], (.tup [(.agg (vF 20 10 ++ vT 71 32)), (.var true 103)])), (17, [(.agg (vF 0 10 ++ vT 0 32)), (.agg [(.int .i64 0), (.int .i64 4), (.var true 37), (.int .i64 0), (.var true 33)])], (.tup [(.agg (vF 30 10 ++ vT 104 32)), (.var true 136)])), (17, [(.agg (vF 30 10 ++ vT 104 32)), (.agg [(.int .i64 0), (.int .i64 4), (.var true 37), (.int .i64 0), (.var true 33)])], (.tup [(.agg (vF 40 10 ++ vT 137 32)), (.var true 169)])), (17, [(.agg (vF 30 10 ++ vT 104 32)), (.agg [(.int .i64 0), (.int .i64 6), (.var true 37), (.int .i64 0), (.int .i64 0)])], (.tup [(.agg (vF 50 10 ++ vT 170 32)), (.var true 202)])), (17, [(.agg (vF 50 10 ++ vT 170 32)), (.agg [(.int .i64 0), (.int .i64 6), (.var true 37), (.int .i64 0), (.int .i64 0)])], (.tup [(.agg (vF 60 10 ++ vT 203 32)), (.var true 235)])), (17, [(.agg (vF 0 10 ++ vT 0 32)), (.agg [(.int .i64 0), (.int .i64 7), (.var true 236), (.int .i64 0), (.int .i64 0)])], (.tup [(.agg (vF 70 10 ++ vT 237 32)), (.var true 269)]))]⟩
theorem f9_p1Q : endS (fnOf FF 9) (stepK f9_p1F FF [] 4000 [] (.code (fnOf FF 9).body) (tmpl (List.range f9W.length) f9W [])) = some (.bool false) := by kernel_rfl
theorem f9_p1 (m : Md) (name : Int) (v : Int) (h0 : ¬ ((!(smallF m)) = true)) (x1 : Md × Bool) (h1 : takeFM m (Ev.mk 0 5 (ordF (IntKind.wrap .i64 name)) 0 0) = some x1) (x2 : Md × Bool) (h2 : takeFM m (Ev.mk 0 7 (ordF (IntKind.wrap .i64 name)) 0 0) = some x2) (x3 : Md × Bool) (h3 : takeFM m (Ev.mk 0 4 (ordF (IntKind.wrap .i64 name)) 0 v) = some x3) (x4 : Md × Bool) (h4 : takeFM x3.1 (Ev.mk 0 4 (ordF (IntKind.wrap .i64 name)) 0 v) = some x4) (x5 : Md × Bool) (h5 : takeFM x3.1 (Ev.mk 0 6 (ordF (IntKind.wrap .i64 name)) 0 0) = some x5) (x6 : Md × Bool) (h6 : takeFM x5.1 (Ev.mk 0 6 (ordF (IntKind.wrap .i64 name)) 0 0) = some x6) (x7 : Md × Bool) (h7 : takeFM m (Ev.mk 0 7 (w64 ((ordF (IntKind.wrap .i64 name)) - 1)) 0 0) = some x7) (h8 : (x1.2 == x2.2) = true) {z0 : St} {σ : Nat → Nat} (hσ : ∀ i j, σ i = σ j → i = j) (S : Sim (f9V m name v σ) (tmpl (List.range f9W.length) f9W []) z0) : J FF (fnOf FF 9) [] (.code (fnOf FF 9).body) z0 (.bool false) :=
  jR (R := gm (f9_p1V m name v x1 x2 x3 x4 x5 x6 x7 σ) (.bool false)) (by kernel_rfl) (J_end (show Hold FF (f9_p1V m name v x1 x2 x3 x4 x5 x6 x7 σ) f9_p1F from ⟨(valL_good hσ (AllP.ap (mdT_ok m) (AllP.ap (.c (.int _ _) <| .c (.int _ _) <| .c (.bool _) <| .c (.bool _) <| .c (.int _ _) <| .c (.int _ _) <| .n) (AllP.ap (mdT_ok x1.1) (AllP.ap (.c (.bool _) <| .n) (AllP.ap (mdT_ok x2.1) (AllP.ap (.c (.bool _) <| .n) (AllP.ap (mdT_ok x3.1) (AllP.ap (.c (.bool _) <| .n) (AllP.ap (mdT_ok x4.1) (AllP.ap (.c (.bool _) <| .n) (AllP.ap (mdT_ok x5.1) (AllP.ap (.c (.bool _) <| .n) (AllP.ap (mdT_ok x6.1) (AllP.ap (.c (.bool _) <| .c (.int _ _) <| .n) (AllP.ap (mdT_ok x7.1) (.c (.bool _) <| .c (.bool _) <| .n)))))))))))))))) (AllP.ap (mdF_ok m) (AllP.ap (mdF_ok x1.1) (AllP.ap (mdF_ok x2.1) (AllP.ap (mdF_ok x3.1) (AllP.ap (mdF_ok x4.1) (AllP.ap (mdF_ok x5.1) (AllP.ap (mdF_ok x6.1) (mdF_ok x7.1)))))))) (.n)),
    holdF_of (AllP.append (rflF fun _ => by kernel_rfl) (.c (fT (by kernel_rfl) (bF h0)) <| .c (fT (by kernel_rfl) h8) <| .n)),
    holdA_of (.n),
    holdN_of (.n),
    holdS_of (.c (sC shown_ok (by kernel_rfl) (by kernel_rfl)) <| .c (sC (small_ok m) (by kernel_rfl) (by kernel_rfl)) <| .c (sC (ord16_ok (IntKind.wrap .i64 name)) (by kernel_rfl) (by kernel_rfl)) <| .c (sC (take_ok h1) (by kernel_rfl) (by kernel_rfl)) <| .c (sC (take_ok h2) (by kernel_rfl) (by kernel_rfl)) <| .c (sC (take_ok h3) (by kernel_rfl) (by kernel_rfl)) <| .c (sC (take_ok h4) (by kernel_rfl) (by kernel_rfl)) <| .c (sC (take_ok h5) (by kernel_rfl) (by kernel_rfl)) <| .c (sC (take_ok h6) (by kernel_rfl) (by kernel_rfl)) <| .c (sC (take_ok h7) (by kernel_rfl) (by kernel_rfl)) <| .n)⟩) (S.more (ρ' := (f9_p1V m name v x1 x2 x3 x4 x5 x6 x7 σ)) (s0 := σ) (n0 := 0) rfl rfl rfl rfl (f9E m name v σ) (f9G m name v σ) (by kernel_rfl) (by kernel_rfl)) f9_p1Q)
def f9_p2V (m : Md) (name : Int) (v : Int) (x1 : Md × Bool) (x2 : Md × Bool) (x3 : Md × Bool) (x4 : Md × Bool) (x5 : Md × Bool) (x6 : Md × Bool) (x7 : Md × Bool) (σ : Nat → Nat) : Val := (valL (ap (mdT m) (ap ([.int .u16 name, .int .i64 v, .bool (smallF m), .bool (!(smallF m)), .int .i64 (IntKind.wrap .i64 name), .int .i64 (ordF (IntKind.wrap .i64 name))]) (ap (mdT x1.1) (ap ([.bool x1.2]) (ap (mdT x2.1) (ap ([.bool x2.2]) (ap (mdT x3.1) (ap ([.bool x3.2]) (ap (mdT x4.1) (ap ([.bool x4.2]) (ap (mdT x5.1) (ap ([.bool x5.2]) (ap (mdT x6.1) (ap ([.bool x6.2, .int .i64 (w64 ((ordF (IntKind.wrap .i64 name)) - 1))]) (ap (mdT x7.1) ([.bool x7.2, .bool (x1.2 == x2.2), .bool (!(x3.2 == x2.2))])))))))))))))))) (ap (mdF m) (ap (mdF x1.1) (ap (mdF x2.1) (ap (mdF x3.1) (ap (mdF x4.1) (ap (mdF x5.1) (ap (mdF x6.1) (mdF x7.1)))))))) [] σ 0)
def f9_p2F : Facts := ⟨(List.append (α := AOp × AV) [(.un .not (.c (.var true 34)), (.var true 35)), (.conv .i64 (.c (.var true 32)), (.var true 36)), (.bin .sub (.c (.var true 37)) (.c (.int .i64 1)), (.var true 236)), (.eqb false (.c (.var true 70)) (.c (.var true 103)), (.var true 270)), (.eqb true (.c (.var true 136)) (.c (.var true 103)), (.var true 271))] [(.mov (.c (.var true 35)), (.bool false)), (.mov (.c (.var true 270)), (.bool false)), (.mov (.c (.var true 271)), (.bool true))]), [], [], [(10, [], (.bool true)), (11, [(.agg (vF 0 10 ++ vT 0 32))], (.var true 34)), (16, [(.var true 36)], (.var true 37)), (17, [(.agg (vF 0 10 ++ vT 0 32)), (.agg [(.int .i64 0), (.int .i64 5), (.var true 37), (.int .i64 0), (.int .i64 0)])], (.tup [(.agg (vF 10 10 ++ vT 38 32)), (.var true 70)])), (17, [(.agg (vF 0 10 ++ vT 0 32)), (.agg [(.int .i64 0), (.int .i64 7), (.var true 37), (.int .i64 0), (.int .i64 0)])], (.tup [(.agg (vF 20 10 ++ vT 71 32)), (.var true 103)])), (17, [(.agg (vF 0 10 ++ vT 0 32)), (.agg [(.int .i64 0), (.int .i64 4), (.var true 37), (.int .i64 0), (.var true 33)])], (.tup [(.agg (vF 30 10 ++ vT 104 32)), (.var true 136)])), (17, [(.agg (vF 30 10 ++ vT 104 32)), (.agg [(.int .i64 0), (.int .i64 4), (.var true 37), (.int .i64 0), (.var true 33)])], (.tup [(.agg (vF 40 10 ++ vT 137 32)), (.var true 169)])), (17, [(.agg (vF 30 10 ++ vT 104 32)), (.agg [(.int .i64 0), (.int .i64 6), (.var true 37), (.int .i64 0), (.int .i64 0)])], (.tup [(.agg (vF 50 10 ++ vT 170 32)), (.var true 202)])), (17, [(.agg (vF 50 10 ++ vT 170 32)), (.agg [(.int .i64 0), (.int .i64 6), (.var true 37), (.int .i64 0), (.int .i64 0)])], (.tup [(.agg (vF 60 10 ++ vT 203 32)), (.var true 235)])), (17, [(.agg (vF 0 10 ++ vT 0 32)), (.agg [(.int .i64 0), (.int .i64 7), (.var true 236), (.int .i64 0), (.int .i64 0)])], (.tup [(.agg (vF 70 10 ++ vT 237 32)), (.var true 269)]))]⟩
theorem f9_p2Q : endS (fnOf FF 9) (stepK f9_p2F FF [] 4000 [] (.code (fnOf FF 9).body) (tmpl (List.range f9W.length) f9W [])) = some (.bool false) := by kernel_rfl
theorem f9_p2 (m : Md) (name : Int) (v : Int) (h0 : ¬ ((!(smallF m)) = true)) (x1 : Md × Bool) (h1 : takeFM m (Ev.mk 0 5 (ordF (IntKind.wrap .i64 name)) 0 0) = some x1) (x2 : Md × Bool) (h2 : takeFM m (Ev.mk 0 7 (ordF (IntKind.wrap .i64 name)) 0 0) = some x2) (x3 : Md × Bool) (h3 : takeFM m (Ev.mk 0 4 (ordF (IntKind.wrap .i64 name)) 0 v) = some x3) (x4 : Md × Bool) (h4 : takeFM x3.1 (Ev.mk 0 4 (ordF (IntKind.wrap .i64 name)) 0 v) = some x4) (x5 : Md × Bool) (h5 : takeFM x3.1 (Ev.mk 0 6 (ordF (IntKind.wrap .i64 name)) 0 0) = some x5) (x6 : Md × Bool) (h6 : takeFM x5.1 (Ev.mk 0 6 (ordF (IntKind.wrap .i64 name)) 0 0) = some x6) (x7 : Md × Bool) (h7 : takeFM m (Ev.mk 0 7 (w64 ((ordF (IntKind.wrap .i64 name)) - 1)) 0 0) = some x7) (h8 : ¬ ((x1.2 == x2.2) = true)) (h9 : (!(x3.2 == x2.2)) = true) {z0 : St} {σ : Nat → Nat} (hσ : ∀ i j, σ i = σ j → i = j) (S : Sim (f9V m name v σ) (tmpl (List.range f9W.length) f9W []) z0) : J FF (fnOf FF 9) [] (.code (fnOf FF 9).body) z0 (.bool false) :=
  jR (R := gm (f9_p2V m name v x1 x2 x3 x4 x5 x6 x7 σ) (.bool false)) (by kernel_rfl) (J_end (show Hold FF (f9_p2V m name v x1 x2 x3 x4 x5 x6 x7 σ) f9_p2F from ⟨(valL_good hσ (AllP.ap (mdT_ok m) (AllP.ap (.c (.int _ _) <| .c (.int _ _) <| .c (.bool _) <| .c (.bool _) <| .c (.int _ _) <| .c (.int _ _) <| .n) (AllP.ap (mdT_ok x1.1) (AllP.ap (.c (.bool _) <| .n) (AllP.ap (mdT_ok x2.1) (AllP.ap (.c (.bool _) <| .n) (AllP.ap (mdT_ok x3.1) (AllP.ap (.c (.bool _) <| .n) (AllP.ap (mdT_ok x4.1) (AllP.ap (.c (.bool _) <| .n) (AllP.ap (mdT_ok x5.1) (AllP.ap (.c (.bool _) <| .n) (AllP.ap (mdT_ok x6.1) (AllP.ap (.c (.bool _) <| .c (.int _ _) <| .n) (AllP.ap (mdT_ok x7.1) (.c (.bool _) <| .c (.bool _) <| .c (.bool _) <| .n)))))))))))))))) (AllP.ap (mdF_ok m) (AllP.ap (mdF_ok x1.1) (AllP.ap (mdF_ok x2.1) (AllP.ap (mdF_ok x3.1) (AllP.ap (mdF_ok x4.1) (AllP.ap (mdF_ok x5.1) (AllP.ap (mdF_ok x6.1) (mdF_ok x7.1)))))))) (.n)),
    holdF_of (AllP.append (rflF fun _ => by kernel_rfl) (.c (fT (by kernel_rfl) (bF h0)) <| .c (fT (by kernel_rfl) (bF h8)) <| .c (fT (by kernel_rfl) h9) <| .n)),
    holdA_of (.n),
    holdN_of (.n),
    holdS_of (.c (sC shown_ok (by kernel_rfl) (by kernel_rfl)) <| .c (sC (small_ok m) (by kernel_rfl) (by kernel_rfl)) <| .c (sC (ord16_ok (IntKind.wrap .i64 name)) (by kernel_rfl) (by kernel_rfl)) <| .c (sC (take_ok h1) (by kernel_rfl) (by kernel_rfl)) <| .c (sC (take_ok h2) (by kernel_rfl) (by kernel_rfl)) <| .c (sC (take_ok h3) (by kernel_rfl) (by kernel_rfl)) <| .c (sC (take_ok h4) (by kernel_rfl) (by kernel_rfl)) <| .c (sC (take_ok h5) (by kernel_rfl) (by kernel_rfl)) <| .c (sC (take_ok h6) (by kernel_rfl) (by kernel_rfl)) <| .c (sC (take_ok h7) (by kernel_rfl) (by kernel_rfl)) <| .n)⟩) (S.more (ρ' := (f9_p2V m name v x1 x2 x3 x4 x5 x6 x7 σ)) (s0 := σ) (n0 := 0) rfl rfl rfl rfl (f9E m name v σ) (f9G m name v σ) (by kernel_rfl) (by kernel_rfl)) f9_p2Q)
def f9_p3V (m : Md) (name : Int) (v : Int) (x1 : Md × Bool) (x2 : Md × Bool) (x3 : Md × Bool) (x4 : Md × Bool) (x5 : Md × Bool) (x6 : Md × Bool) (x7 : Md × Bool) (σ : Nat → Nat) : Val := (valL (ap (mdT m) (ap ([.int .u16 name, .int .i64 v, .bool (smallF m), .bool (!(smallF m)), .int .i64 (IntKind.wrap .i64 name), .int .i64 (ordF (IntKind.wrap .i64 name))]) (ap (mdT x1.1) (ap ([.bool x1.2]) (ap (mdT x2.1) (ap ([.bool x2.2]) (ap (mdT x3.1) (ap ([.bool x3.2]) (ap (mdT x4.1) (ap ([.bool x4.2]) (ap (mdT x5.1) (ap ([.bool x5.2]) (ap (mdT x6.1) (ap ([.bool x6.2, .int .i64 (w64 ((ordF (IntKind.wrap .i64 name)) - 1))]) (ap (mdT x7.1) ([.bool x7.2, .bool (x1.2 == x2.2), .bool (!(x3.2 == x2.2))])))))))))))))))) (ap (mdF m) (ap (mdF x1.1) (ap (mdF x2.1) (ap (mdF x3.1) (ap (mdF x4.1) (ap (mdF x5.1) (ap (mdF x6.1) (mdF x7.1)))))))) [] σ 0)
def f9_p3F : Facts := ⟨(List.append (α := AOp × AV) [(.un .not (.c (.var true 34)), (.var true 35)), (.conv .i64 (.c (.var true 32)), (.var true 36)), (.bin .sub (.c (.var true 37)) (.c (.int .i64 1)), (.var true 236)), (.eqb false (.c (.var true 70)) (.c (.var true 103)), (.var true 270)), (.eqb true (.c (.var true 136)) (.c (.var true 103)), (.var true 271))] [(.mov (.c (.var true 35)), (.bool false)), (.mov (.c (.var true 270)), (.bool false)), (.mov (.c (.var true 271)), (.bool false)), (.mov (.c (.var true 169)), (.bool true))]), [], [], [(10, [], (.bool true)), (11, [(.agg (vF 0 10 ++ vT 0 32))], (.var true 34)), (16, [(.var true 36)], (.var true 37)), (17, [(.agg (vF 0 10 ++ vT 0 32)), (.agg [(.int .i64 0), (.int .i64 5), (.var true 37), (.int .i64 0), (.int .i64 0)])], (.tup [(.agg (vF 10 10 ++ vT 38 32)), (.var true 70)])), (17, [(.agg (vF 0 10 ++ vT 0 32)), (.agg [(.int .i64 0), (.int .i64 7), (.var true 37), (.int .i64 0), (.int .i64 0)])], (.tup [(.agg (vF 20 10 ++ vT 71 32)), (.var true 103)])), (17, [(.agg (vF 0 10 ++ vT 0 32)), (.agg [(.int .i64 0), (.int .i64 4), (.var true 37), (.int .i64 0), (.var true 33)])], (.tup [(.agg (vF 30 10 ++ vT 104 32)), (.var true 136)])), (17, [(.agg (vF 30 10 ++ vT 104 32)), (.agg [(.int .i64 0), (.int .i64 4), (.var true 37), (.int .i64 0), (.var true 33)])], (.tup [(.agg (vF 40 10 ++ vT 137 32)), (.var true 169)])), (17, [(.agg (vF 30 10 ++ vT 104 32)), (.agg [(.int .i64 0), (.int .i64 6), (.var true 37), (.int .i64 0), (.int .i64 0)])], (.tup [(.agg (vF 50 10 ++ vT 170 32)), (.var true 202)])), (17, [(.agg (vF 50 10 ++ vT 170 32)), (.agg [(.int .i64 0), (.int .i64 6), (.var true 37), (.int .i64 0), (.int .i64 0)])], (.tup [(.agg (vF 60 10 ++ vT 203 32)), (.var true 235)])), (17, [(.agg (vF 0 10 ++ vT 0 32)), (.agg [(.int .i64 0), (.int .i64 7), (.var true 236), (.int .i64 0), (.int .i64 0)])], (.tup [(.agg (vF 70 10 ++ vT 237 32)), (.var true 269)]))]⟩
theorem f9_p3Q : endS (fnOf FF 9) (stepK f9_p3F FF [] 4000 [] (.code (fnOf FF 9).body) (tmpl (List.range f9W.length) f9W [])) = some (.bool false) := by kernel_rfl
theorem f9_p3 (m : Md) (name : Int) (v : Int) (h0 : ¬ ((!(smallF m)) = true)) (x1 : Md × Bool) (h1 : takeFM m (Ev.mk 0 5 (ordF (IntKind.wrap .i64 name)) 0 0) = some x1) (x2 : Md × Bool) (h2 : takeFM m (Ev.mk 0 7 (ordF (IntKind.wrap .i64 name)) 0 0) = some x2) (x3 : Md × Bool) (h3 : takeFM m (Ev.mk 0 4 (ordF (IntKind.wrap .i64 name)) 0 v) = some x3) (x4 : Md × Bool) (h4 : takeFM x3.1 (Ev.mk 0 4 (ordF (IntKind.wrap .i64 name)) 0 v) = some x4) (x5 : Md × Bool) (h5 : takeFM x3.1 (Ev.mk 0 6 (ordF (IntKind.wrap .i64 name)) 0 0) = some x5) (x6 : Md × Bool) (h6 : takeFM x5.1 (Ev.mk 0 6 (ordF (IntKind.wrap .i64 name)) 0 0) = some x6) (x7 : Md × Bool) (h7 : takeFM m (Ev.mk 0 7 (w64 ((ordF (IntKind.wrap .i64 name)) - 1)) 0 0) = some x7) (h8 : ¬ ((x1.2 == x2.2) = true)) (h9 : ¬ ((!(x3.2 == x2.2)) = true)) (h10 : x4.2 = true) {z0 : St} {σ : Nat → Nat} (hσ : ∀ i j, σ i = σ j → i = j) (S : Sim (f9V m name v σ) (tmpl (List.range f9W.length) f9W []) z0) : J FF (fnOf FF 9) [] (.code (fnOf FF 9).body) z0 (.bool false) :=
  jR (R := gm (f9_p3V m name v x1 x2 x3 x4 x5 x6 x7 σ) (.bool false)) (by kernel_rfl) (J_end (show Hold FF (f9_p3V m name v x1 x2 x3 x4 x5 x6 x7 σ) f9_p3F from ⟨(valL_good hσ (AllP.ap (mdT_ok m) (AllP.ap (.c (.int _ _) <| .c (.int _ _) <| .c (.bool _) <| .c (.bool _) <| .c (.int _ _) <| .c (.int _ _) <| .n) (AllP.ap (mdT_ok x1.1) (AllP.ap (.c (.bool _) <| .n) (AllP.ap (mdT_ok x2.1) (AllP.ap (.c (.bool _) <| .n) (AllP.ap (mdT_ok x3.1) (AllP.ap (.c (.bool _) <| .n) (AllP.ap (mdT_ok x4.1) (AllP.ap (.c (.bool _) <| .n) (AllP.ap (mdT_ok x5.1) (AllP.ap (.c (.bool _) <| .n) (AllP.ap (mdT_ok x6.1) (AllP.ap (.c (.bool _) <| .c (.int _ _) <| .n) (AllP.ap (mdT_ok x7.1) (.c (.bool _) <| .c (.bool _) <| .c (.bool _) <| .n)))))))))))))))) (AllP.ap (mdF_ok m) (AllP.ap (mdF_ok x1.1) (AllP.ap (mdF_ok x2.1) (AllP.ap (mdF_ok x3.1) (AllP.ap (mdF_ok x4.1) (AllP.ap (mdF_ok x5.1) (AllP.ap (mdF_ok x6.1) (mdF_ok x7.1)))))))) (.n)),
    holdF_of (AllP.append (rflF fun _ => by kernel_rfl) (.c (fT (by kernel_rfl) (bF h0)) <| .c (fT (by kernel_rfl) (bF h8)) <| .c (fT (by kernel_rfl) (bF h9)) <| .c (fT (by kernel_rfl) h10) <| .n)),
    holdA_of (.n),
    holdN_of (.n),
    holdS_of (.c (sC shown_ok (by kernel_rfl) (by kernel_rfl)) <| .c (sC (small_ok m) (by kernel_rfl) (by kernel_rfl)) <| .c (sC (ord16_ok (IntKind.wrap .i64 name)) (by kernel_rfl) (by kernel_rfl)) <| .c (sC (take_ok h1) (by kernel_rfl) (by kernel_rfl)) <| .c (sC (take_ok h2) (by kernel_rfl) (by kernel_rfl)) <| .c (sC (take_ok h3) (by kernel_rfl) (by kernel_rfl)) <| .c (sC (take_ok h4) (by kernel_rfl) (by kernel_rfl)) <| .c (sC (take_ok h5) (by kernel_rfl) (by kernel_rfl)) <| .c (sC (take_ok h6) (by kernel_rfl) (by kernel_rfl)) <| .c (sC (take_ok h7) (by kernel_rfl) (by kernel_rfl)) <| .n)⟩) (S.more (ρ' := (f9_p3V m name v x1 x2 x3 x4 x5 x6 x7 σ)) (s0 := σ) (n0 := 0) rfl rfl rfl rfl (f9E m name v σ) (f9G m name v σ) (by kernel_rfl) (by kernel_rfl)) f9_p3Q)
def f9_p4V (m : Md) (name : Int) (v : Int) (x1 : Md × Bool) (x2 : Md × Bool) (x3 : Md × Bool) (x4 : Md × Bool) (x5 : Md × Bool) (x6 : Md × Bool) (x7 : Md × Bool) (σ : Nat → Nat) : Val := (valL (ap (mdT m) (ap ([.int .u16 name, .int .i64 v, .bool (smallF m), .bool (!(smallF m)), .int .i64 (IntKind.wrap .i64 name), .int .i64 (ordF (IntKind.wrap .i64 name))]) (ap (mdT x1.1) (ap ([.bool x1.2]) (ap (mdT x2.1) (ap ([.bool x2.2]) (ap (mdT x3.1) (ap ([.bool x3.2]) (ap (mdT x4.1) (ap ([.bool x4.2]) (ap (mdT x5.1) (ap ([.bool x5.2]) (ap (mdT x6.1) (ap ([.bool x6.2, .int .i64 (w64 ((ordF (IntKind.wrap .i64 name)) - 1))]) (ap (mdT x7.1) ([.bool x7.2, .bool (x1.2 == x2.2), .bool (!(x3.2 == x2.2)), .bool (!x5.2)])))))))))))))))) (ap (mdF m) (ap (mdF x1.1) (ap (mdF x2.1) (ap (mdF x3.1) (ap (mdF x4.1) (ap (mdF x5.1) (ap (mdF x6.1) (mdF x7.1)))))))) [] σ 0)
def f9_p4F : Facts := ⟨(List.append (α := AOp × AV) [(.un .not (.c (.var true 34)), (.var true 35)), (.conv .i64 (.c (.var true 32)), (.var true 36)), (.bin .sub (.c (.var true 37)) (.c (.int .i64 1)), (.var true 236)), (.eqb false (.c (.var true 70)) (.c (.var true 103)), (.var true 270)), (.eqb true (.c (.var true 136)) (.c (.var true 103)), (.var true 271)), (.un .not (.c (.var true 202)), (.var true 272))] [(.mov (.c (.var true 35)), (.bool false)), (.mov (.c (.var true 270)), (.bool false)), (.mov (.c (.var true 271)), (.bool false)), (.mov (.c (.var true 169)), (.bool false)), (.mov (.c (.var true 272)), (.bool true))]), [], [], [(10, [], (.bool true)), (11, [(.agg (vF 0 10 ++ vT 0 32))], (.var true 34)), (16, [(.var true 36)], (.var true 37)), (17, [(.agg (vF 0 10 ++ vT 0 32)), (.agg [(.int .i64 0), (.int .i64 5), (.var true 37), (.int .i64 0), (.int .i64 0)])], (.tup [(.agg (vF 10 10 ++ vT 38 32)), (.var true 70)])), (17, [(.agg (vF 0 10 ++ vT 0 32)), (.agg [(.int .i64 0), (.int .i64 7), (.var true 37), (.int .i64 0), (.int .i64 0)])], (.tup [(.agg (vF 20 10 ++ vT 71 32)), (.var true 103)])), (17, [(.agg (vF 0 10 ++ vT 0 32)), (.agg [(.int .i64 0), (.int .i64 4), (.var true 37), (.int .i64 0), (.var true 33)])], (.tup [(.agg (vF 30 10 ++ vT 104 32)), (.var true 136)])), (17, [(.agg (vF 30 10 ++ vT 104 32)), (.agg [(.int .i64 0), (.int .i64 4), (.var true 37), (.int .i64 0), (.var true 33)])], (.tup [(.agg (vF 40 10 ++ vT 137 32)), (.var true 169)])), (17, [(.agg (vF 30 10 ++ vT 104 32)), (.agg [(.int .i64 0), (.int .i64 6), (.var true 37), (.int .i64 0), (.int .i64 0)])], (.tup [(.agg (vF 50 10 ++ vT 170 32)), (.var true 202)])), (17, [(.agg (vF 50 10 ++ vT 170 32)), (.agg [(.int .i64 0), (.int .i64 6), (.var true 37), (.int .i64 0), (.int .i64 0)])], (.tup [(.agg (vF 60 10 ++ vT 203 32)), (.var true 235)])), (17, [(.agg (vF 0 10 ++ vT 0 32)), (.agg [(.int .i64 0), (.int .i64 7), (.var true 236), (.int .i64 0), (.int .i64 0)])], (.tup [(.agg (vF 70 10 ++ vT 237 32)), (.var true 269)]))]⟩
theorem f9_p4Q : endS (fnOf FF 9) (stepK f9_p4F FF [] 4000 [] (.code (fnOf FF 9).body) (tmpl (List.range f9W.length) f9W [])) = some (.bool false) := by kernel_rfl
theorem f9_p4 (m : Md) (name : Int) (v : Int) (h0 : ¬ ((!(smallF m)) = true)) (x1 : Md × Bool) (h1 : takeFM m (Ev.mk 0 5 (ordF (IntKind.wrap .i64 name)) 0 0) = some x1) (x2 : Md × Bool) (h2 : takeFM m (Ev.mk 0 7 (ordF (IntKind.wrap .i64 name)) 0 0) = some x2) (x3 : Md × Bool) (h3 : takeFM m (Ev.mk 0 4 (ordF (IntKind.wrap .i64 name)) 0 v) = some x3) (x4 : Md × Bool) (h4 : takeFM x3.1 (Ev.mk 0 4 (ordF (IntKind.wrap .i64 name)) 0 v) = some x4) (x5 : Md × Bool) (h5 : takeFM x3.1 (Ev.mk 0 6 (ordF (IntKind.wrap .i64 name)) 0 0) = some x5) (x6 : Md × Bool) (h6 : takeFM x5.1 (Ev.mk 0 6 (ordF (IntKind.wrap .i64 name)) 0 0) = some x6) (x7 : Md × Bool) (h7 : takeFM m (Ev.mk 0 7 (w64 ((ordF (IntKind.wrap .i64 name)) - 1)) 0 0) = some x7) (h8 : ¬ ((x1.2 == x2.2) = true)) (h9 : ¬ ((!(x3.2 == x2.2)) = true)) (h10 : ¬ (x4.2 = true)) (h11 : (!x5.2) = true) {z0 : St} {σ : Nat → Nat} (hσ : ∀ i j, σ i = σ j → i = j) (S : Sim (f9V m name v σ) (tmpl (List.range f9W.length) f9W []) z0) : J FF (fnOf FF 9) [] (.code (fnOf FF 9).body) z0 (.bool false) :=
  jR (R := gm (f9_p4V m name v x1 x2 x3 x4 x5 x6 x7 σ) (.bool false)) (by kernel_rfl) (J_end (show Hold FF (f9_p4V m name v x1 x2 x3 x4 x5 x6 x7 σ) f9_p4F from ⟨(valL_good hσ (AllP.ap (mdT_ok m) (AllP.ap (.c (.int _ _) <| .c (.int _ _) <| .c (.bool _) <| .c (.bool _) <| .c (.int _ _) <| .c (.int _ _) <| .n) (AllP.ap (mdT_ok x1.1) (AllP.ap (.c (.bool _) <| .n) (AllP.ap (mdT_ok x2.1) (AllP.ap (.c (.bool _) <| .n) (AllP.ap (mdT_ok x3.1) (AllP.ap (.c (.bool _) <| .n) (AllP.ap (mdT_ok x4.1) (AllP.ap (.c (.bool _) <| .n) (AllP.ap (mdT_ok x5.1) (AllP.ap (.c (.bool _) <| .n) (AllP.ap (mdT_ok x6.1) (AllP.ap (.c (.bool _) <| .c (.int _ _) <| .n) (AllP.ap (mdT_ok x7.1) (.c (.bool _) <| .c (.bool _) <| .c (.bool _) <| .c (.bool _) <| .n)))))))))))))))) (AllP.ap (mdF_ok m) (AllP.ap (mdF_ok x1.1) (AllP.ap (mdF_ok x2.1) (AllP.ap (mdF_ok x3.1) (AllP.ap (mdF_ok x4.1) (AllP.ap (mdF_ok x5.1) (AllP.ap (mdF_ok x6.1) (mdF_ok x7.1)))))))) (.n)),
    holdF_of (AllP.append (rflF fun _ => by kernel_rfl) (.c (fT (by kernel_rfl) (bF h0)) <| .c (fT (by kernel_rfl) (bF h8)) <| .c (fT (by kernel_rfl) (bF h9)) <| .c (fT (by kernel_rfl) (bF h10)) <| .c (fT (by kernel_rfl) h11) <| .n)),
    holdA_of (.n),
    holdN_of (.n),
    holdS_of (.c (sC shown_ok (by kernel_rfl) (by kernel_rfl)) <| .c (sC (small_ok m) (by kernel_rfl) (by kernel_rfl)) <| .c (sC (ord16_ok (IntKind.wrap .i64 name)) (by kernel_rfl) (by kernel_rfl)) <| .c (sC (take_ok h1) (by kernel_rfl) (by kernel_rfl)) <| .c (sC (take_ok h2) (by kernel_rfl) (by kernel_rfl)) <| .c (sC (take_ok h3) (by kernel_rfl) (by kernel_rfl)) <| .c (sC (take_ok h4) (by kernel_rfl) (by kernel_rfl)) <| .c (sC (take_ok h5) (by kernel_rfl) (by kernel_rfl)) <| .c (sC (take_ok h6) (by kernel_rfl) (by kernel_rfl)) <| .c (sC (take_ok h7) (by kernel_rfl) (by kernel_rfl)) <| .n)⟩) (S.more (ρ' := (f9_p4V m name v x1 x2 x3 x4 x5 x6 x7 σ)) (s0 := σ) (n0 := 0) rfl rfl rfl rfl (f9E m name v σ) (f9G m name v σ) (by kernel_rfl) (by kernel_rfl)) f9_p4Q)
def f9_p5V (m : Md) (name : Int) (v : Int) (x1 : Md × Bool) (x2 : Md × Bool) (x3 : Md × Bool) (x4 : Md × Bool) (x5 : Md × Bool) (x6 : Md × Bool) (x7 : Md × Bool) (σ : Nat → Nat) : Val := (valL (ap (mdT m) (ap ([.int .u16 name, .int .i64 v, .bool (smallF m), .bool (!(smallF m)), .int .i64 (IntKind.wrap .i64 name), .int .i64 (ordF (IntKind.wrap .i64 name))]) (ap (mdT x1.1) (ap ([.bool x1.2]) (ap (mdT x2.1) (ap ([.bool x2.2]) (ap (mdT x3.1) (ap ([.bool x3.2]) (ap (mdT x4.1) (ap ([.bool x4.2]) (ap (mdT x5.1) (ap ([.bool x5.2]) (ap (mdT x6.1) (ap ([.bool x6.2, .int .i64 (w64 ((ordF (IntKind.wrap .i64 name)) - 1))]) (ap (mdT x7.1) ([.bool x7.2, .bool (x1.2 == x2.2), .bool (!(x3.2 == x2.2)), .bool (!x5.2)])))))))))))))))) (ap (mdF m) (ap (mdF x1.1) (ap (mdF x2.1) (ap (mdF x3.1) (ap (mdF x4.1) (ap (mdF x5.1) (ap (mdF x6.1) (mdF x7.1)))))))) [] σ 0)
def f9_p5F : Facts := ⟨(List.append (α := AOp × AV) [(.un .not (.c (.var true 34)), (.var true 35)), (.conv .i64 (.c (.var true 32)), (.var true 36)), (.bin .sub (.c (.var true 37)) (.c (.int .i64 1)), (.var true 236)), (.eqb false (.c (.var true 70)) (.c (.var true 103)), (.var true 270)), (.eqb true (.c (.var true 136)) (.c (.var true 103)), (.var true 271)), (.un .not (.c (.var true 202)), (.var true 272))] [(.mov (.c (.var true 35)), (.bool false)), (.mov (.c (.var true 270)), (.bool false)), (.mov (.c (.var true 271)), (.bool false)), (.mov (.c (.var true 169)), (.bool false)), (.mov (.c (.var true 272)), (.bool false)), (.mov (.c (.var true 235)), (.bool true))]), [], [], [(10, [], (.bool true)), (11, [(.agg (vF 0 10 ++ vT 0 32))], (.var true 34)), (16, [(.var true 36)], (.var true 37)), (17, [(.agg (vF 0 10 ++ vT 0 32)), (.agg [(.int .i64 0), (.int .i64 5), (.var true 37), (.int .i64 0), (.int .i64 0)])], (.tup [(.agg (vF 10 10 ++ vT 38 32)), (.var true 70)])), (17, [(.agg (vF 0 10 ++ vT 0 32)), (.agg [(.int .i64 0), (.int .i64 7), (.var true 37), (.int .i64 0), (.int .i64 0)])], (.tup [(.agg (vF 20 10 ++ vT 71 32)), (.var true 103)])), (17, [(.agg (vF 0 10 ++ vT 0 32)), (.agg [(.int .i64 0), (.int .i64 4), (.var true 37), (.int .i64 0), (.var true 33)])], (.tup [(.agg (vF 30 10 ++ vT 104 32)), (.var true 136)])), (17, [(.agg (vF 30 10 ++ vT 104 32)), (.agg [(.int .i64 0), (.int .i64 4), (.var true 37), (.int .i64 0), (.var true 33)])], (.tup [(.agg (vF 40 10 ++ vT 137 32)), (.var true 169)])), (17, [(.agg (vF 30 10 ++ vT 104 32)), (.agg [(.int .i64 0), (.int .i64 6), (.var true 37), (.int .i64 0), (.int .i64 0)])], (.tup [(.agg (vF 50 10 ++ vT 170 32)), (.var true 202)])), (17, [(.agg (vF 50 10 ++ vT 170 32)), (.agg [(.int .i64 0), (.int .i64 6), (.var true 37), (.int .i64 0), (.int .i64 0)])], (.tup [(.agg (vF 60 10 ++ vT 203 32)), (.var true 235)])), (17, [(.agg (vF 0 10 ++ vT 0 32)), (.agg [(.int .i64 0), (.int .i64 7), (.var true 236), (.int .i64 0), (.int .i64 0)])], (.tup [(.agg (vF 70 10 ++ vT 237 32)), (.var true 269)]))]⟩
theorem f9_p5Q : endS (fnOf FF 9) (stepK f9_p5F FF [] 4000 [] (.code (fnOf FF 9).body) (tmpl (List.range f9W.length) f9W [])) = some (.bool false) := by kernel_rfl
theorem f9_p5 (m : Md) (name : Int) (v : Int) (h0 : ¬ ((!(smallF m)) = true)) (x1 : Md × Bool) (h1 : takeFM m (Ev.mk 0 5 (ordF (IntKind.wrap .i64 name)) 0 0) = some x1) (x2 : Md × Bool) (h2 : takeFM m (Ev.mk 0 7 (ordF (IntKind.wrap .i64 name)) 0 0) = some x2) (x3 : Md × Bool) (h3 : takeFM m (Ev.mk 0 4 (ordF (IntKind.wrap .i64 name)) 0 v) = some x3) (x4 : Md × Bool) (h4 : takeFM x3.1 (Ev.mk 0 4 (ordF (IntKind.wrap .i64 name)) 0 v) = some x4) (x5 : Md × Bool) (h5 : takeFM x3.1 (Ev.mk 0 6 (ordF (IntKind.wrap .i64 name)) 0 0) = some x5) (x6 : Md × Bool) (h6 : takeFM x5.1 (Ev.mk 0 6 (ordF (IntKind.wrap .i64 name)) 0 0) = some x6) (x7 : Md × Bool) (h7 : takeFM m (Ev.mk 0 7 (w64 ((ordF (IntKind.wrap .i64 name)) - 1)) 0 0) = some x7) (h8 : ¬ ((x1.2 == x2.2) = true)) (h9 : ¬ ((!(x3.2 == x2.2)) = true)) (h10 : ¬ (x4.2 = true)) (h11 : ¬ ((!x5.2) = true)) (h12 : x6.2 = true) {z0 : St} {σ : Nat → Nat} (hσ : ∀ i j, σ i = σ j → i = j) (S : Sim (f9V m name v σ) (tmpl (List.range f9W.length) f9W []) z0) : J FF (fnOf FF 9) [] (.code (fnOf FF 9).body) z0 (.bool false) :=
  jR (R := gm (f9_p5V m name v x1 x2 x3 x4 x5 x6 x7 σ) (.bool false)) (by kernel_rfl) (J_end (show Hold FF (f9_p5V m name v x1 x2 x3 x4 x5 x6 x7 σ) f9_p5F from ⟨(valL_good hσ (AllP.ap (mdT_ok m) (AllP.ap (.c (.int _ _) <| .c (.int _ _) <| .c (.bool _) <| .c (.bool _) <| .c (.int _ _) <| .c (.int _ _) <| .n) (AllP.ap (mdT_ok x1.1) (AllP.ap (.c (.bool _) <| .n) (AllP.ap (mdT_ok x2.1) (AllP.ap (.c (.bool _) <| .n) (AllP.ap (mdT_ok x3.1) (AllP.ap (.c (.bool _) <| .n) (AllP.ap (mdT_ok x4.1) (AllP.ap (.c (.bool _) <| .n) (AllP.ap (mdT_ok x5.1) (AllP.ap (.c (.bool _) <| .n) (AllP.ap (mdT_ok x6.1) (AllP.ap (.c (.bool _) <| .c (.int _ _) <| .n) (AllP.ap (mdT_ok x7.1) (.c (.bool _) <| .c (.bool _) <| .c (.bool _) <| .c (.bool _) <| .n)))))))))))))))) (AllP.ap (mdF_ok m) (AllP.ap (mdF_ok x1.1) (AllP.ap (mdF_ok x2.1) (AllP.ap (mdF_ok x3.1) (AllP.ap (mdF_ok x4.1) (AllP.ap (mdF_ok x5.1) (AllP.ap (mdF_ok x6.1) (mdF_ok x7.1)))))))) (.n)),
    holdF_of (AllP.append (rflF fun _ => by kernel_rfl) (.c (fT (by kernel_rfl) (bF h0)) <| .c (fT (by kernel_rfl) (bF h8)) <| .c (fT (by kernel_rfl) (bF h9)) <| .c (fT (by kernel_rfl) (bF h10)) <| .c (fT (by kernel_rfl) (bF h11)) <| .c (fT (by kernel_rfl) h12) <| .n)),
    holdA_of (.n),
    holdN_of (.n),
    holdS_of (.c (sC shown_ok (by kernel_rfl) (by kernel_rfl)) <| .c (sC (small_ok m) (by kernel_rfl) (by kernel_rfl)) <| .c (sC (ord16_ok (IntKind.wrap .i64 name)) (by kernel_rfl) (by kernel_rfl)) <| .c (sC (take_ok h1) (by kernel_rfl) (by kernel_rfl)) <| .c (sC (take_ok h2) (by kernel_rfl) (by kernel_rfl)) <| .c (sC (take_ok h3) (by kernel_rfl) (by kernel_rfl)) <| .c (sC (take_ok h4) (by kernel_rfl) (by kernel_rfl)) <| .c (sC (take_ok h5) (by kernel_rfl) (by kernel_rfl)) <| .c (sC (take_ok h6) (by kernel_rfl) (by kernel_rfl)) <| .c (sC (take_ok h7) (by kernel_rfl) (by kernel_rfl)) <| .n)⟩) (S.more (ρ' := (f9_p5V m name v x1 x2 x3 x4 x5 x6 x7 σ)) (s0 := σ) (n0 := 0) rfl rfl rfl rfl (f9E m name v σ) (f9G m name v σ) (by kernel_rfl) (by kernel_rfl)) f9_p5Q)
def f9_p6V (m : Md) (name : Int) (v : Int) (x1 : Md × Bool) (x2 : Md × Bool) (x3 : Md × Bool) (x4 : Md × Bool) (x5 : Md × Bool) (x6 : Md × Bool) (x7 : Md × Bool) (σ : Nat → Nat) : Val := (valL (ap (mdT m) (ap ([.int .u16 name, .int .i64 v, .bool (smallF m), .bool (!(smallF m)), .int .i64 (IntKind.wrap .i64 name), .int .i64 (ordF (IntKind.wrap .i64 name))]) (ap (mdT x1.1) (ap ([.bool x1.2]) (ap (mdT x2.1) (ap ([.bool x2.2]) (ap (mdT x3.1) (ap ([.bool x3.2]) (ap (mdT x4.1) (ap ([.bool x4.2]) (ap (mdT x5.1) (ap ([.bool x5.2]) (ap (mdT x6.1) (ap ([.bool x6.2, .int .i64 (w64 ((ordF (IntKind.wrap .i64 name)) - 1))]) (ap (mdT x7.1) ([.bool x7.2, .bool (x1.2 == x2.2), .bool (!(x3.2 == x2.2)), .bool (!x5.2)])))))))))))))))) (ap (mdF m) (ap (mdF x1.1) (ap (mdF x2.1) (ap (mdF x3.1) (ap (mdF x4.1) (ap (mdF x5.1) (ap (mdF x6.1) (mdF x7.1)))))))) [] σ 0)
def f9_p6F : Facts := ⟨(List.append (α := AOp × AV) [(.un .not (.c (.var true 34)), (.var true 35)), (.conv .i64 (.c (.var true 32)), (.var true 36)), (.bin .sub (.c (.var true 37)) (.c (.int .i64 1)), (.var true 236)), (.eqb false (.c (.var true 70)) (.c (.var true 103)), (.var true 270)), (.eqb true (.c (.var true 136)) (.c (.var true 103)), (.var true 271)), (.un .not (.c (.var true 202)), (.var true 272))] [(.mov (.c (.var true 35)), (.bool false)), (.mov (.c (.var true 270)), (.bool false)), (.mov (.c (.var true 271)), (.bool false)), (.mov (.c (.var true 169)), (.bool false)), (.mov (.c (.var true 272)), (.bool false)), (.mov (.c (.var true 235)), (.bool false)), (.mov (.c (.var true 269)), (.bool true))]), [], [], [(10, [], (.bool true)), (11, [(.agg (vF 0 10 ++ vT 0 32))], (.var true 34)), (16, [(.var true 36)], (.var true 37)), (17, [(.agg (vF 0 10 ++ vT 0 32)), (.agg [(.int .i64 0), (.int .i64 5), (.var true 37), (.int .i64 0), (.int .i64 0)])], (.tup [(.agg (vF 10 10 ++ vT 38 32)), (.var true 70)])), (17, [(.agg (vF 0 10 ++ vT 0 32)), (.agg [(.int .i64 0), (.int .i64 7), (.var true 37), (.int .i64 0), (.int .i64 0)])], (.tup [(.agg (vF 20 10 ++ vT 71 32)), (.var true 103)])), (17, [(.agg (vF 0 10 ++ vT 0 32)), (.agg [(.int .i64 0), (.int .i64 4), (.var true 37), (.int .i64 0), (.var true 33)])], (.tup [(.agg (vF 30 10 ++ vT 104 32)), (.var true 136)])), (17, [(.agg (vF 30 10 ++ vT 104 32)), (.agg [(.int .i64 0), (.int .i64 4), (.var true 37), (.int .i64 0), (.var true 33)])], (.tup [(.agg (vF 40 10 ++ vT 137 32)), (.var true 169)])), (17, [(.agg (vF 30 10 ++ vT 104 32)), (.agg [(.int .i64 0), (.int .i64 6), (.var true 37), (.int .i64 0), (.int .i64 0)])], (.tup [(.agg (vF 50 10 ++ vT 170 32)), (.var true 202)])), (17, [(.agg (vF 50 10 ++ vT 170 32)), (.agg [(.int .i64 0), (.int .i64 6), (.var true 37), (.int .i64 0), (.int .i64 0)])], (.tup [(.agg (vF 60 10 ++ vT 203 32)), (.var true 235)])), (17, [(.agg (vF 0 10 ++ vT 0 32)), (.agg [(.int .i64 0), (.int .i64 7), (.var true 236), (.int .i64 0), (.int .i64 0)])], (.tup [(.agg (vF 70 10 ++ vT 237 32)), (.var true 269)]))]⟩
theorem f9_p6Q : endS (fnOf FF 9) (stepK f9_p6F FF [] 4000 [] (.code (fnOf FF 9).body) (tmpl (List.range f9W.length) f9W [])) = some (.bool false) := by kernel_rfl
theorem f9_p6 (m : Md) (name : Int) (v : Int) (h0 : ¬ ((!(smallF m)) = true)) (x1 : Md × Bool) (h1 : takeFM m (Ev.mk 0 5 (ordF (IntKind.wrap .i64 name)) 0 0) = some x1) (x2 : Md × Bool) (h2 : takeFM m (Ev.mk 0 7 (ordF (IntKind.wrap .i64 name)) 0 0) = some x2) (x3 : Md × Bool) (h3 : takeFM m (Ev.mk 0 4 (ordF (IntKind.wrap .i64 name)) 0 v) = some x3) (x4 : Md × Bool) (h4 : takeFM x3.1 (Ev.mk 0 4 (ordF (IntKind.wrap .i64 name)) 0 v) = some x4) (x5 : Md × Bool) (h5 : takeFM x3.1 (Ev.mk 0 6 (ordF (IntKind.wrap .i64 name)) 0 0) = some x5) (x6 : Md × Bool) (h6 : takeFM x5.1 (Ev.mk 0 6 (ordF (IntKind.wrap .i64 name)) 0 0) = some x6) (x7 : Md × Bool) (h7 : takeFM m (Ev.mk 0 7 (w64 ((ordF (IntKind.wrap .i64 name)) - 1)) 0 0) = some x7) (h8 : ¬ ((x1.2 == x2.2) = true)) (h9 : ¬ ((!(x3.2 == x2.2)) = true)) (h10 : ¬ (x4.2 = true)) (h11 : ¬ ((!x5.2) = true)) (h12 : ¬ (x6.2 = true)) (h13 : x7.2 = true) {z0 : St} {σ : Nat → Nat} (hσ : ∀ i j, σ i = σ j → i = j) (S : Sim (f9V m name v σ) (tmpl (List.range f9W.length) f9W []) z0) : J FF (fnOf FF 9) [] (.code (fnOf FF 9).body) z0 (.bool false) :=
  jR (R := gm (f9_p6V m name v x1 x2 x3 x4 x5 x6 x7 σ) (.bool false)) (by kernel_rfl) (J_end (show Hold FF (f9_p6V m name v x1 x2 x3 x4 x5 x6 x7 σ) f9_p6F from ⟨(valL_good hσ (AllP.ap (mdT_ok m) (AllP.ap (.c (.int _ _) <| .c (.int _ _) <| .c (.bool _) <| .c (.bool _) <| .c (.int _ _) <| .c (.int _ _) <| .n) (AllP.ap (mdT_ok x1.1) (AllP.ap (.c (.bool _) <| .n) (AllP.ap (mdT_ok x2.1) (AllP.ap (.c (.bool _) <| .n) (AllP.ap (mdT_ok x3.1) (AllP.ap (.c (.bool _) <| .n) (AllP.ap (mdT_ok x4.1) (AllP.ap (.c (.bool _) <| .n) (AllP.ap (mdT_ok x5.1) (AllP.ap (.c (.bool _) <| .n) (AllP.ap (mdT_ok x6.1) (AllP.ap (.c (.bool _) <| .c (.int _ _) <| .n) (AllP.ap (mdT_ok x7.1) (.c (.bool _) <| .c (.bool _) <| .c (.bool _) <| .c (.bool _) <| .n)))))))))))))))) (AllP.ap (mdF_ok m) (AllP.ap (mdF_ok x1.1) (AllP.ap (mdF_ok x2.1) (AllP.ap (mdF_ok x3.1) (AllP.ap (mdF_ok x4.1) (AllP.ap (mdF_ok x5.1) (AllP.ap (mdF_ok x6.1) (mdF_ok x7.1)))))))) (.n)),
    holdF_of (AllP.append (rflF fun _ => by kernel_rfl) (.c (fT (by kernel_rfl) (bF h0)) <| .c (fT (by kernel_rfl) (bF h8)) <| .c (fT (by kernel_rfl) (bF h9)) <| .c (fT (by kernel_rfl) (bF h10)) <| .c (fT (by kernel_rfl) (bF h11)) <| .c (fT (by kernel_rfl) (bF h12)) <| .c (fT (by kernel_rfl) h13) <| .n)),
    holdA_of (.n),
    holdN_of (.n),
    holdS_of (.c (sC shown_ok (by kernel_rfl) (by kernel_rfl)) <| .c (sC (small_ok m) (by kernel_rfl) (by kernel_rfl)) <| .c (sC (ord16_ok (IntKind.wrap .i64 name)) (by kernel_rfl) (by kernel_rfl)) <| .c (sC (take_ok h1) (by kernel_rfl) (by kernel_rfl)) <| .c (sC (take_ok h2) (by kernel_rfl) (by kernel_rfl)) <| .c (sC (take_ok h3) (by kernel_rfl) (by kernel_rfl)) <| .c (sC (take_ok h4) (by kernel_rfl) (by kernel_rfl)) <| .c (sC (take_ok h5) (by kernel_rfl) (by kernel_rfl)) <| .c (sC (take_ok h6) (by kernel_rfl) (by kernel_rfl)) <| .c (sC (take_ok h7) (by kernel_rfl) (by kernel_rfl)) <| .n)⟩) (S.more (ρ' := (f9_p6V m name v x1 x2 x3 x4 x5 x6 x7 σ)) (s0 := σ) (n0 := 0) rfl rfl rfl rfl (f9E m name v σ) (f9G m name v σ) (by kernel_rfl) (by kernel_rfl)) f9_p6Q)
def f9_p7V (m : Md) (name : Int) (v : Int) (x1 : Md × Bool) (x2 : Md × Bool) (x3 : Md × Bool) (x4 : Md × Bool) (x5 : Md × Bool) (x6 : Md × Bool) (x7 : Md × Bool) (σ : Nat → Nat) : Val := (valL (ap (mdT m) (ap ([.int .u16 name, .int .i64 v, .bool (smallF m), .bool (!(smallF m)), .int .i64 (IntKind.wrap .i64 name), .int .i64 (ordF (IntKind.wrap .i64 name))]) (ap (mdT x1.1) (ap ([.bool x1.2]) (ap (mdT x2.1) (ap ([.bool x2.2]) (ap (mdT x3.1) (ap ([.bool x3.2]) (ap (mdT x4.1) (ap ([.bool x4.2]) (ap (mdT x5.1) (ap ([.bool x5.2]) (ap (mdT x6.1) (ap ([.bool x6.2, .int .i64 (w64 ((ordF (IntKind.wrap .i64 name)) - 1))]) (ap (mdT x7.1) ([.bool x7.2, .bool (x1.2 == x2.2), .bool (!(x3.2 == x2.2)), .bool (!x5.2), .bool (!x3.2)])))))))))))))))) (ap (mdF m) (ap (mdF x1.1) (ap (mdF x2.1) (ap (mdF x3.1) (ap (mdF x4.1) (ap (mdF x5.1) (ap (mdF x6.1) (mdF x7.1)))))))) [] σ 0)
def f9_p7F : Facts := ⟨(List.append (α := AOp × AV) [(.un .not (.c (.var true 34)), (.var true 35)), (.conv .i64 (.c (.var true 32)), (.var true 36)), (.bin .sub (.c (.var true 37)) (.c (.int .i64 1)), (.var true 236)), (.eqb false (.c (.var true 70)) (.c (.var true 103)), (.var true 270)), (.eqb true (.c (.var true 136)) (.c (.var true 103)), (.var true 271)), (.un .not (.c (.var true 202)), (.var true 272)), (.un .not (.c (.var true 136)), (.var true 273))] [(.mov (.c (.var true 35)), (.bool false)), (.mov (.c (.var true 270)), (.bool false)), (.mov (.c (.var true 271)), (.bool false)), (.mov (.c (.var true 169)), (.bool false)), (.mov (.c (.var true 272)), (.bool false)), (.mov (.c (.var true 235)), (.bool false)), (.mov (.c (.var true 269)), (.bool false)), (.mov (.c (.var true 273)), (.bool true))]), [], [], [(10, [], (.bool true)), (11, [(.agg (vF 0 10 ++ vT 0 32))], (.var true 34)), (16, [(.var true 36)], (.var true 37)), (17, [(.agg (vF 0 10 ++ vT 0 32)), (.agg [(.int .i64 0), (.int .i64 5), (.var true 37), (.int .i64 0), (.int .i64 0)])], (.tup [(.agg (vF 10 10 ++ vT 38 32)), (.var true 70)])), (17, [(.agg (vF 0 10 ++ vT 0 32)), (.agg [(.int .i64 0), (.int .i64 7), (.var true 37), (.int .i64 0), (.int .i64 0)])], (.tup [(.agg (vF 20 10 ++ vT 71 32)), (.var true 103)])), (17, [(.agg (vF 0 10 ++ vT 0 32)), (.agg [(.int .i64 0), (.int .i64 4), (.var true 37), (.int .i64 0), (.var true 33)])], (.tup [(.agg (vF 30 10 ++ vT 104 32)), (.var true 136)])), (17, [(.agg (vF 30 10 ++ vT 104 32)), (.agg [(.int .i64 0), (.int .i64 4), (.var true 37), (.int .i64 0), (.var true 33)])], (.tup [(.agg (vF 40 10 ++ vT 137 32)), (.var true 169)])), (17, [(.agg (vF 30 10 ++ vT 104 32)), (.agg [(.int .i64 0), (.int .i64 6), (.var true 37), (.int .i64 0), (.int .i64 0)])], (.tup [(.agg (vF 50 10 ++ vT 170 32)), (.var true 202)])), (17, [(.agg (vF 50 10 ++ vT 170 32)), (.agg [(.int .i64 0), (.int .i64 6), (.var true 37), (.int .i64 0), (.int .i64 0)])], (.tup [(.agg (vF 60 10 ++ vT 203 32)), (.var true 235)])), (17, [(.agg (vF 0 10 ++ vT 0 32)), (.agg [(.int .i64 0), (.int .i64 7), (.var true 236), (.int .i64 0), (.int .i64 0)])], (.tup [(.agg (vF 70 10 ++ vT 237 32)), (.var true 269)]))]⟩
theorem f9_p7Q : endS (fnOf FF 9) (stepK f9_p7F FF [] 4000 [] (.code (fnOf FF 9).body) (tmpl (List.range f9W.length) f9W [])) = some (.bool true) := by kernel_rfl
theorem f9_p7 (m : Md) (name : Int) (v : Int) (h0 : ¬ ((!(smallF m)) = true)) (x1 : Md × Bool) (h1 : takeFM m (Ev.mk 0 5 (ordF (IntKind.wrap .i64 name)) 0 0) = some x1) (x2 : Md × Bool) (h2 : takeFM m (Ev.mk 0 7 (ordF (IntKind.wrap .i64 name)) 0 0) = some x2) (x3 : Md × Bool) (h3 : takeFM m (Ev.mk 0 4 (ordF (IntKind.wrap .i64 name)) 0 v) = some x3) (x4 : Md × Bool) (h4 : takeFM x3.1 (Ev.mk 0 4 (ordF (IntKind.wrap .i64 name)) 0 v) = some x4) (x5 : Md × Bool) (h5 : takeFM x3.1 (Ev.mk 0 6 (ordF (IntKind.wrap .i64 name)) 0 0) = some x5) (x6 : Md × Bool) (h6 : takeFM x5.1 (Ev.mk 0 6 (ordF (IntKind.wrap .i64 name)) 0 0) = some x6) (x7 : Md × Bool) (h7 : takeFM m (Ev.mk 0 7 (w64 ((ordF (IntKind.wrap .i64 name)) - 1)) 0 0) = some x7) (h8 : ¬ ((x1.2 == x2.2) = true)) (h9 : ¬ ((!(x3.2 == x2.2)) = true)) (h10 : ¬ (x4.2 = true)) (h11 : ¬ ((!x5.2) = true)) (h12 : ¬ (x6.2 = true)) (h13 : ¬ (x7.2 = true)) (h14 : (!x3.2) = true) {z0 : St} {σ : Nat → Nat} (hσ : ∀ i j, σ i = σ j → i = j) (S : Sim (f9V m name v σ) (tmpl (List.range f9W.length) f9W []) z0) : J FF (fnOf FF 9) [] (.code (fnOf FF 9).body) z0 (.bool true) :=
  jR (R := gm (f9_p7V m name v x1 x2 x3 x4 x5 x6 x7 σ) (.bool true)) (by kernel_rfl) (J_end (show Hold FF (f9_p7V m name v x1 x2 x3 x4 x5 x6 x7 σ) f9_p7F from ⟨(valL_good hσ (AllP.ap (mdT_ok m) (AllP.ap (.c (.int _ _) <| .c (.int _ _) <| .c (.bool _) <| .c (.bool _) <| .c (.int _ _) <| .c (.int _ _) <| .n) (AllP.ap (mdT_ok x1.1) (AllP.ap (.c (.bool _) <| .n) (AllP.ap (mdT_ok x2.1) (AllP.ap (.c (.bool _) <| .n) (AllP.ap (mdT_ok x3.1) (AllP.ap (.c (.bool _) <| .n) (AllP.ap (mdT_ok x4.1) (AllP.ap (.c (.bool _) <| .n) (AllP.ap (mdT_ok x5.1) (AllP.ap (.c (.bool _) <| .n) (AllP.ap (mdT_ok x6.1) (AllP.ap (.c (.bool _) <| .c (.int _ _) <| .n) (AllP.ap (mdT_ok x7.1) (.c (.bool _) <| .c (.bool _) <| .c (.bool _) <| .c (.bool _) <| .c (.bool _) <| .n)))))))))))))))) (AllP.ap (mdF_ok m) (AllP.ap (mdF_ok x1.1) (AllP.ap (mdF_ok x2.1) (AllP.ap (mdF_ok x3.1) (AllP.ap (mdF_ok x4.1) (AllP.ap (mdF_ok x5.1) (AllP.ap (mdF_ok x6.1) (mdF_ok x7.1)))))))) (.n)),
    holdF_of (AllP.append (rflF fun _ => by kernel_rfl) (.c (fT (by kernel_rfl) (bF h0)) <| .c (fT (by kernel_rfl) (bF h8)) <| .c (fT (by kernel_rfl) (bF h9)) <| .c (fT (by kernel_rfl) (bF h10)) <| .c (fT (by kernel_rfl) (bF h11)) <| .c (fT (by kernel_rfl) (bF h12)) <| .c (fT (by kernel_rfl) (bF h13)) <| .c (fT (by kernel_rfl) h14) <| .n)),
    holdA_of (.n),
    holdN_of (.n),
    holdS_of (.c (sC shown_ok (by kernel_rfl) (by kernel_rfl)) <| .c (sC (small_ok m) (by kernel_rfl) (by kernel_rfl)) <| .c (sC (ord16_ok (IntKind.wrap .i64 name)) (by kernel_rfl) (by kernel_rfl)) <| .c (sC (take_ok h1) (by kernel_rfl) (by kernel_rfl)) <| .c (sC (take_ok h2) (by kernel_rfl) (by kernel_rfl)) <| .c (sC (take_ok h3) (by kernel_rfl) (by kernel_rfl)) <| .c (sC (take_ok h4) (by kernel_rfl) (by kernel_rfl)) <| .c (sC (take_ok h5) (by kernel_rfl) (by kernel_rfl)) <| .c (sC (take_ok h6) (by kernel_rfl) (by kernel_rfl)) <| .c (sC (take_ok h7) (by kernel_rfl) (by kernel_rfl)) <| .n)⟩) (S.more (ρ' := (f9_p7V m name v x1 x2 x3 x4 x5 x6 x7 σ)) (s0 := σ) (n0 := 0) rfl rfl rfl rfl (f9E m name v σ) (f9G m name v σ) (by kernel_rfl) (by kernel_rfl)) f9_p7Q)
def f9_p8V (m : Md) (name : Int) (v : Int) (x1 : Md × Bool) (x2 : Md × Bool) (x3 : Md × Bool) (x4 : Md × Bool) (x5 : Md × Bool) (x6 : Md × Bool) (x7 : Md × Bool) (σ : Nat → Nat) : Val := (valL (ap (mdT m) (ap ([.int .u16 name, .int .i64 v, .bool (smallF m), .bool (!(smallF m)), .int .i64 (IntKind.wrap .i64 name), .int .i64 (ordF (IntKind.wrap .i64 name))]) (ap (mdT x1.1) (ap ([.bool x1.2]) (ap (mdT x2.1) (ap ([.bool x2.2]) (ap (mdT x3.1) (ap ([.bool x3.2]) (ap (mdT x4.1) (ap ([.bool x4.2]) (ap (mdT x5.1) (ap ([.bool x5.2]) (ap (mdT x6.1) (ap ([.bool x6.2, .int .i64 (w64 ((ordF (IntKind.wrap .i64 name)) - 1))]) (ap (mdT x7.1) ([.bool x7.2, .bool (x1.2 == x2.2), .bool (!(x3.2 == x2.2)), .bool (!x5.2), .bool (!x3.2), .bool (sameF x5.1 m)])))))))))))))))) (ap (mdF m) (ap (mdF x1.1) (ap (mdF x2.1) (ap (mdF x3.1) (ap (mdF x4.1) (ap (mdF x5.1) (ap (mdF x6.1) (mdF x7.1)))))))) [] σ 0)
def f9_p8F : Facts := ⟨(List.append (α := AOp × AV) [(.un .not (.c (.var true 34)), (.var true 35)), (.conv .i64 (.c (.var true 32)), (.var true 36)), (.bin .sub (.c (.var true 37)) (.c (.int .i64 1)), (.var true 236)), (.eqb false (.c (.var true 70)) (.c (.var true 103)), (.var true 270)), (.eqb true (.c (.var true 136)) (.c (.var true 103)), (.var true 271)), (.un .not (.c (.var true 202)), (.var true 272)), (.un .not (.c (.var true 136)), (.var true 273))] [(.mov (.c (.var true 35)), (.bool false)), (.mov (.c (.var true 270)), (.bool false)), (.mov (.c (.var true 271)), (.bool false)), (.mov (.c (.var true 169)), (.bool false)), (.mov (.c (.var true 272)), (.bool false)), (.mov (.c (.var true 235)), (.bool false)), (.mov (.c (.var true 269)), (.bool false)), (.mov (.c (.var true 273)), (.bool false))]), [], [], [(10, [], (.bool true)), (11, [(.agg (vF 0 10 ++ vT 0 32))], (.var true 34)), (16, [(.var true 36)], (.var true 37)), (17, [(.agg (vF 0 10 ++ vT 0 32)), (.agg [(.int .i64 0), (.int .i64 5), (.var true 37), (.int .i64 0), (.int .i64 0)])], (.tup [(.agg (vF 10 10 ++ vT 38 32)), (.var true 70)])), (17, [(.agg (vF 0 10 ++ vT 0 32)), (.agg [(.int .i64 0), (.int .i64 7), (.var true 37), (.int .i64 0), (.int .i64 0)])], (.tup [(.agg (vF 20 10 ++ vT 71 32)), (.var true 103)])), (17, [(.agg (vF 0 10 ++ vT 0 32)), (.agg [(.int .i64 0), (.int .i64 4), (.var true 37), (.int .i64 0), (.var true 33)])], (.tup [(.agg (vF 30 10 ++ vT 104 32)), (.var true 136)])), (17, [(.agg (vF 30 10 ++ vT 104 32)), (.agg [(.int .i64 0), (.int .i64 4), (.var true 37), (.int .i64 0), (.var true 33)])], (.tup [(.agg (vF 40 10 ++ vT 137 32)), (.var true 169)])), (17, [(.agg (vF 30 10 ++ vT 104 32)), (.agg [(.int .i64 0), (.int .i64 6), (.var true 37), (.int .i64 0), (.int .i64 0)])], (.tup [(.agg (vF 50 10 ++ vT 170 32)), (.var true 202)])), (17, [(.agg (vF 50 10 ++ vT 170 32)), (.agg [(.int .i64 0), (.int .i64 6), (.var true 37), (.int .i64 0), (.int .i64 0)])], (.tup [(.agg (vF 60 10 ++ vT 203 32)), (.var true 235)])), (17, [(.agg (vF 0 10 ++ vT 0 32)), (.agg [(.int .i64 0), (.int .i64 7), (.var true 236), (.int .i64 0), (.int .i64 0)])], (.tup [(.agg (vF 70 10 ++ vT 237 32)), (.var true 269)])), (15, [(.agg (vF 50 10 ++ vT 170 32)), (.agg (vF 0 10 ++ vT 0 32))], (.var true 274))]⟩
theorem f9_p8Q : endS (fnOf FF 9) (stepK f9_p8F FF [] 4000 [] (.code (fnOf FF 9).body) (tmpl (List.range f9W.length) f9W [])) = some (.var true 274) := by kernel_rfl
theorem f9_p8 (m : Md) (name : Int) (v : Int) (h0 : ¬ ((!(smallF m)) = true)) (x1 : Md × Bool) (h1 : takeFM m (Ev.mk 0 5 (ordF (IntKind.wrap .i64 name)) 0 0) = some x1) (x2 : Md × Bool) (h2 : takeFM m (Ev.mk 0 7 (ordF (IntKind.wrap .i64 name)) 0 0) = some x2) (x3 : Md × Bool) (h3 : takeFM m (Ev.mk 0 4 (ordF (IntKind.wrap .i64 name)) 0 v) = some x3) (x4 : Md × Bool) (h4 : takeFM x3.1 (Ev.mk 0 4 (ordF (IntKind.wrap .i64 name)) 0 v) = some x4) (x5 : Md × Bool) (h5 : takeFM x3.1 (Ev.mk 0 6 (ordF (IntKind.wrap .i64 name)) 0 0) = some x5) (x6 : Md × Bool) (h6 : takeFM x5.1 (Ev.mk 0 6 (ordF (IntKind.wrap .i64 name)) 0 0) = some x6) (x7 : Md × Bool) (h7 : takeFM m (Ev.mk 0 7 (w64 ((ordF (IntKind.wrap .i64 name)) - 1)) 0 0) = some x7) (h8 : ¬ ((x1.2 == x2.2) = true)) (h9 : ¬ ((!(x3.2 == x2.2)) = true)) (h10 : ¬ (x4.2 = true)) (h11 : ¬ ((!x5.2) = true)) (h12 : ¬ (x6.2 = true)) (h13 : ¬ (x7.2 = true)) (h14 : ¬ ((!x3.2) = true)) (h15 : okM x5.1 = true) {z0 : St} {σ : Nat → Nat} (hσ : ∀ i j, σ i = σ j → i = j) (S : Sim (f9V m name v σ) (tmpl (List.range f9W.length) f9W []) z0) : J FF (fnOf FF 9) [] (.code (fnOf FF 9).body) z0 (.bool (sameF x5.1 m)) :=
  jR (R := gm (f9_p8V m name v x1 x2 x3 x4 x5 x6 x7 σ) (.var true 274)) (by kernel_rfl) (J_end (show Hold FF (f9_p8V m name v x1 x2 x3 x4 x5 x6 x7 σ) f9_p8F from ⟨(valL_good hσ (AllP.ap (mdT_ok m) (AllP.ap (.c (.int _ _) <| .c (.int _ _) <| .c (.bool _) <| .c (.bool _) <| .c (.int _ _) <| .c (.int _ _) <| .n) (AllP.ap (mdT_ok x1.1) (AllP.ap (.c (.bool _) <| .n) (AllP.ap (mdT_ok x2.1) (AllP.ap (.c (.bool _) <| .n) (AllP.ap (mdT_ok x3.1) (AllP.ap (.c (.bool _) <| .n) (AllP.ap (mdT_ok x4.1) (AllP.ap (.c (.bool _) <| .n) (AllP.ap (mdT_ok x5.1) (AllP.ap (.c (.bool _) <| .n) (AllP.ap (mdT_ok x6.1) (AllP.ap (.c (.bool _) <| .c (.int _ _) <| .n) (AllP.ap (mdT_ok x7.1) (.c (.bool _) <| .c (.bool _) <| .c (.bool _) <| .c (.bool _) <| .c (.bool _) <| .c (.bool _) <| .n)))))))))))))))) (AllP.ap (mdF_ok m) (AllP.ap (mdF_ok x1.1) (AllP.ap (mdF_ok x2.1) (AllP.ap (mdF_ok x3.1) (AllP.ap (mdF_ok x4.1) (AllP.ap (mdF_ok x5.1) (AllP.ap (mdF_ok x6.1) (mdF_ok x7.1)))))))) (.n)),
    holdF_of (AllP.append (rflF fun _ => by kernel_rfl) (.c (fT (by kernel_rfl) (bF h0)) <| .c (fT (by kernel_rfl) (bF h8)) <| .c (fT (by kernel_rfl) (bF h9)) <| .c (fT (by kernel_rfl) (bF h10)) <| .c (fT (by kernel_rfl) (bF h11)) <| .c (fT (by kernel_rfl) (bF h12)) <| .c (fT (by kernel_rfl) (bF h13)) <| .c (fT (by kernel_rfl) (bF h14)) <| .n)),
    holdA_of (.n),
    holdN_of (.n),
    holdS_of (.c (sC shown_ok (by kernel_rfl) (by kernel_rfl)) <| .c (sC (small_ok m) (by kernel_rfl) (by kernel_rfl)) <| .c (sC (ord16_ok (IntKind.wrap .i64 name)) (by kernel_rfl) (by kernel_rfl)) <| .c (sC (take_ok h1) (by kernel_rfl) (by kernel_rfl)) <| .c (sC (take_ok h2) (by kernel_rfl) (by kernel_rfl)) <| .c (sC (take_ok h3) (by kernel_rfl) (by kernel_rfl)) <| .c (sC (take_ok h4) (by kernel_rfl) (by kernel_rfl)) <| .c (sC (take_ok h5) (by kernel_rfl) (by kernel_rfl)) <| .c (sC (take_ok h6) (by kernel_rfl) (by kernel_rfl)) <| .c (sC (take_ok h7) (by kernel_rfl) (by kernel_rfl)) <| .c (sC (same15_ok x5.1 m h15) (by kernel_rfl) (by kernel_rfl)) <| .n)⟩) (S.more (ρ' := (f9_p8V m name v x1 x2 x3 x4 x5 x6 x7 σ)) (s0 := σ) (n0 := 0) rfl rfl rfl rfl (f9E m name v σ) (f9G m name v σ) (by kernel_rfl) (by kernel_rfl)) f9_p8Q)
theorem f9_ok (m : Md) (name : Int) (v : Int) {r0 : AV} (h : f9 m name v = some r0) : Spec FF 9 [(Md.av m), (.int .u16 name), (.int .i64 v)] r0 := by
  unfold f9 at h
  have hσ : ∀ i j : Nat, (fun i : Nat => i) i = (fun i : Nat => i) j → i = j := fun _ _ e => e
  exact spec_begin (ρ := f9V m name v (fun i => i)) (xs := f9W) (by kernel_rfl) rfl rfl (by kernel_rfl) (fun z0 S => iteE h (fun h0 h => jE h (f9_p0 m name v h0 hσ S)) (fun h0 h => bindE h (fun x1 h1 h => bindE h (fun x2 h2 h => bindE h (fun x3 h3 h => bindE h (fun x4 h4 h => bindE h (fun x5 h5 h => bindE h (fun x6 h6 h => bindE h (fun x7 h7 h => iteE h (fun h8 h => jE h (f9_p1 m name v h0 x1 h1 x2 h2 x3 h3 x4 h4 x5 h5 x6 h6 x7 h7 h8 hσ S)) (fun h8 h => iteE h (fun h9 h => jE h (f9_p2 m name v h0 x1 h1 x2 h2 x3 h3 x4 h4 x5 h5 x6 h6 x7 h7 h8 h9 hσ S)) (fun h9 h => iteE h (fun h10 h => jE h (f9_p3 m name v h0 x1 h1 x2 h2 x3 h3 x4 h4 x5 h5 x6 h6 x7 h7 h8 h9 h10 hσ S)) (fun h10 h => iteE h (fun h11 h => jE h (f9_p4 m name v h0 x1 h1 x2 h2 x3 h3 x4 h4 x5 h5 x6 h6 x7 h7 h8 h9 h10 h11 hσ S)) (fun h11 h => iteE h (fun h12 h => jE h (f9_p5 m name v h0 x1 h1 x2 h2 x3 h3 x4 h4 x5 h5 x6 h6 x7 h7 h8 h9 h10 h11 h12 hσ S)) (fun h12 h => iteE h (fun h13 h => jE h (f9_p6 m name v h0 x1 h1 x2 h2 x3 h3 x4 h4 x5 h5 x6 h6 x7 h7 h8 h9 h10 h11 h12 h13 hσ S)) (fun h13 h => iteE h (fun h14 h => jE h (f9_p7 m name v h0 x1 h1 x2 h2 x3 h3 x4 h4 x5 h5 x6 h6 x7 h7 h8 h9 h10 h11 h12 h13 h14 hσ S)) (fun h14 h => reqE h (fun h15 h => jE h (f9_p8 m name v h0 x1 h1 x2 h2 x3 h3 x4 h4 x5 h5 x6 h6 x7 h7 h8 h9 h10 h11 h12 h13 h14 h15 hσ S))))))))))))))))))

end Go.Proofs.Hz
open Go Go.Proofs
namespace Go.Proofs.Hz
/-! ### Rows that rise -/
theorem take_lb {l : List Int} {x : Int} : l.take (lbF l x) = l.takeWhile fun y => decide (y < x) := by
  have h := List.takeWhile_prefix (l := l) fun y => decide (y < x)
  exact (List.prefix_iff_eq_take.1 h).symm
theorem mem_take_lb {l : List Int} {x y : Int} (h : y ∈ l.take (lbF l x)) : y < x := by
  obtain ⟨i, hi, e⟩ := List.getElem_of_mem h
  rw [List.length_take] at hi
  rw [List.getElem_take] at e
  rw [← e]
  exact lb_lt (by omega) (by omega)
theorem mem_drop_lb {l : List Int} (hs : l.Pairwise (· < ·)) {x y : Int} (h : y ∈ l.drop (lbF l x)) : x ≤ y := by
  obtain ⟨i, hi, e⟩ := List.getElem_of_mem h
  rw [List.getElem_drop] at e
  rw [← e]
  exact lb_ge hs (by simp at hi; omega) (Nat.le_add_right _ _)
/-- A row with something laid in where it belongs. -/
def insL (l : List Int) (x : Int) : List Int := l.take (lbF l x) ++ [x] ++ l.drop (lbF l x)
theorem insL_up {l : List Int} (hs : l.Pairwise (· < ·)) {x : Int} (hx : x ∉ l) : (insL l x).Pairwise (· < ·) := by
  unfold insL
  rw [List.append_assoc, List.pairwise_append]
  refine ⟨hs.sublist (List.take_sublist _ _), ?_, fun a ha b hb => ?_⟩
  · rw [List.singleton_append, List.pairwise_cons]
    refine ⟨fun y hy => ?_, hs.sublist (List.drop_sublist _ _)⟩
    have h1 := mem_drop_lb hs hy
    have h2 : x ≠ y := fun e => hx (e ▸ List.mem_of_mem_drop hy)
    omega
  · have h1 := mem_take_lb ha
    rcases List.mem_cons.1 (by simpa using hb) with rfl | hb
    · exact h1
    · have := mem_drop_lb hs hb; omega
theorem insL_lb {l : List Int} {x : Int} : lbF (insL l x) x = lbF l x := by
  unfold insL
  conv => lhs; unfold lbF
  rw [List.append_assoc, List.takeWhile_append_of_pos (fun y hy => by simpa using mem_take_lb hy)]
  simp [lbF]
  exact Nat.min_eq_left (List.takeWhile_prefix _).length_le
theorem insL_mem {l : List Int} {x : Int} : x ∈ insL l x := by simp [insL]
theorem insL_len {l : List Int} {x : Int} : (insL l x).length = l.length + 1 := by
  have := lbF_le l x
  simp [insL]; omega
/-- A row without what stands at a place. -/
def cutL {α : Type} (l : List α) (i : Nat) : List α := l.take i ++ l.drop (i + 1)
theorem cut_ins {α : Type} (l : List α) (i : Nat) (x : α) (h : i ≤ l.length) : cutL (l.take i ++ [x] ++ l.drop i) i = l := by
  unfold cutL
  have h1 : (l.take i).length = i := by simp; omega
  rw [List.append_assoc, List.take_left' h1]
  rw [show i + 1 = (l.take i ++ [x]).length by simp; omega, ← List.append_assoc, List.drop_left' rfl, List.take_append_drop]
theorem cutL_up {l : List Int} (hs : l.Pairwise (· < ·)) (i : Nat) : (cutL l i).Pairwise (· < ·) := by
  unfold cutL
  rw [List.pairwise_append]
  refine ⟨hs.sublist (List.take_sublist _ _), hs.sublist (List.drop_sublist _ _), fun a ha b hb => ?_⟩
  obtain ⟨j, hj, rfl⟩ := List.getElem_of_mem ha
  obtain ⟨k, hk, rfl⟩ := List.getElem_of_mem hb
  simp only [List.length_take, List.length_drop] at hj hk
  rw [List.getElem_take, List.getElem_drop]
  exact List.pairwise_iff_getElem.1 hs _ _ (by omega) (by omega) (by omega)
theorem cutL_not {l : List Int} (hs : l.Pairwise (· < ·)) {x : Int} : x ∉ cutL l (lbF l x) := by
  unfold cutL
  intro h
  rcases List.mem_append.1 h with h | h
  · have := mem_take_lb h; omega
  · obtain ⟨k, hk, e⟩ := List.getElem_of_mem h
    simp only [List.length_drop] at hk
    rw [List.getElem_drop] at e
    have h1 := lb_ge hs (x := x) (i := lbF l x) (by omega) (Nat.le_refl _)
    have h2 := List.pairwise_iff_getElem.1 hs (lbF l x) (lbF l x + 1 + k) (by omega) (by omega) (by omega)
    omega
theorem cutL_len {α : Type} (l : List α) (i : Nat) : (cutL l i).length ≤ l.length := by
  unfold cutL; simp; omega
theorem cutL_len' {α : Type} (l : List α) (i : Nat) (h : i < l.length) : (cutL l i).length = l.length - 1 := by
  unfold cutL; simp; omega
/-! ### Names and keys -/
theorem rv_app : ∀ (k x a : Nat), rv k x a = a * 2 ^ k + rv k x 0
  | 0, x, a => by simp [rv]
  | k + 1, x, a => by
    rw [rv, rv, rv_app k (x / 2) (2 * a + x % 2), rv_app k (x / 2) (2 * 0 + x % 2)]
    rw [Nat.pow_succ, Nat.add_mul, Nat.mul_zero, Nat.zero_add]
    have : 2 * a * 2 ^ k = a * (2 ^ k * 2) := by rw [Nat.mul_comm 2 a, Nat.mul_assoc, Nat.mul_comm 2]
    omega
theorem rv_split : ∀ (j k x : Nat), rv (j + k) x 0 = rv j x 0 * 2 ^ k + rv k (x / 2 ^ j) 0
  | 0, k, x => by simp [rv]
  | j + 1, k, x => by
    rw [show j + 1 + k = (j + k) + 1 by omega, rv, rv, rv_app (j + k), rv_app j, rv_split j k (x / 2)]
    have h1 : x / 2 / 2 ^ j = x / 2 ^ (j + 1) := by rw [Nat.div_div_eq_div_mul, Nat.pow_succ, Nat.mul_comm]
    rw [h1, Nat.pow_add, Nat.mul_zero, Nat.zero_add, Nat.add_mul, Nat.mul_assoc]
    omega
theorem rv_mod : ∀ (k x y : Nat), rv k (x + 2 ^ k * y) 0 = rv k x 0
  | 0, x, y => by simp [rv]
  | k + 1, x, y => by
    rw [rv, rv]
    have h1 : (x + 2 ^ (k + 1) * y) % 2 = x % 2 := by rw [Nat.pow_succ, Nat.mul_comm (2 ^ k) 2, Nat.mul_assoc]; omega
    have h2 : (x + 2 ^ (k + 1) * y) / 2 = x / 2 + 2 ^ k * y := by rw [Nat.pow_succ, Nat.mul_comm (2 ^ k) 2, Nat.mul_assoc]; omega
    rw [h1, h2, rv_app k (x / 2 + 2 ^ k * y), rv_app k (x / 2), rv_mod k]
theorem rv8_all : ((List.range 256).all fun x => rv 8 (rv 8 x 0) 0 == x) = true := by kernel_rfl
theorem rv8 (x : Nat) (h : x < 256) : rv 8 (rv 8 x 0) 0 = x := by
  have := List.all_eq_true.1 rv8_all x (List.mem_range.2 h)
  simpa using this
theorem rv8_lt (x : Nat) : rv 8 x 0 < 256 := rv_lt 8 x 0 0 (by simp)
theorem rv16_rv16 (x : Nat) (h : x < 65536) : rv 16 (rv 16 x 0) 0 = x := by
  have e1 : ∀ y, rv 16 y 0 = rv 8 y 0 * 256 + rv 8 (y / 256) 0 := fun y => rv_split 8 8 y
  have e2 : ∀ y, rv 8 y 0 = rv 8 (y % 256) 0 := fun y => by
    have := rv_mod 8 (y % 256) (y / 256)
    rw [show y % 256 + 2 ^ 8 * (y / 256) = y by omega] at this
    exact this
  have l1 := rv8_lt x
  have l2 := rv8_lt (x / 256)
  rw [e1 (rv 16 x 0), e1 x, e2 (rv 8 x 0 * 256 + rv 8 (x / 256) 0)]
  rw [show (rv 8 x 0 * 256 + rv 8 (x / 256) 0) % 256 = rv 8 (x / 256) 0 by omega, show (rv 8 x 0 * 256 + rv 8 (x / 256) 0) / 256 = rv 8 x 0 by omega]
  rw [rv8 (x / 256) (by omega), e2 x, rv8 (x % 256) (by omega)]
  omega
theorem revF_rev {n : Int} (h : 0 ≤ n ∧ n ≤ 65535) : revF (revF n) = n := by
  have e : ∀ {k : Int}, 0 ≤ k ∧ k ≤ 65535 → lowF k = k := fun {k} hk => by
    obtain ⟨x, h1, h2, h3⟩ := lowF_nat k
    rw [h1, h3]; omega
  obtain ⟨r, h1, h2⟩ := revF_nat n
  have h3 : revF (revF n) = (rv 16 (lowF (revF n)).toNat 0 : Nat) := rfl
  rw [h3, e (k := revF n) (by rw [h1]; omega)]
  have h4 : revF n = (rv 16 n.toNat 0 : Nat) := by unfold revF; rw [e h]
  rw [h4, Int.toNat_natCast, rv16_rv16 _ (by omega)]
  omega
theorem unord_ord {n : Int} (h : 0 ≤ n ∧ n ≤ 65535) : unordF (ordF n) = (n, true) := by
  obtain ⟨r, h1, h2⟩ := revF_nat n
  have h3 := revF_rev h
  unfold unordF ordF
  rw [h1] at h3 ⊢
  rw [if_neg (by omega), show (2 * (r : Int) + 1) / 2 = r by omega, h3]
theorem unord_even {n : Int} : unordF (ordF n - 1) = (0, false) := by
  obtain ⟨r, h1, h2⟩ := revF_nat n
  unfold unordF ordF
  rw [h1, if_pos (by omega)]
/-! ### What is taken of names -/
theorem search_eq {l : List Int} (hs : l.Pairwise (· < ·)) (hl : l.length ≤ 1000000) (x : Int) : searchF l x = some ((lbF l x : Int), decide (x ∈ l)) := by
  unfold searchF; rw [if_pos ⟨hs, hl⟩]
theorem with_ins {l : List Int} {i : Nat} {x : Int} (h : i ≤ l.length) (hl : l.length ≤ 100000) : withF l i 0 [x] = some ⟨l.take i ++ [x] ++ l.drop i, false⟩ := by
  unfold withF
  rw [if_pos ⟨by omega, by omega, by omega, by omega, by simp⟩]
  unfold concF
  rw [if_pos (by simp; omega)]
  simp
theorem with_cut {l : List Int} {i : Nat} (h : i < l.length) (hl : l.length ≤ 100000) : withF l i 1 [] = some ⟨cutL l i, (cutL l i).isEmpty⟩ := by
  unfold withF
  rw [if_pos ⟨by omega, by omega, by omega, by omega, by simp⟩]
  unfold concF
  rw [if_pos (by simp; omega)]
  have : (((i : Int) + 1)).toNat = i + 1 := by omega
  simp [cutL, this]
theorem laid_eq {m : Md} (hs : m.k.l.Pairwise (· < ·)) (hl : m.k.l.length ≤ 1000) (hv : m.v.l.length = m.k.l.length) (n v : Int) :
    laidF m n v = some (Md.setV (Md.setK m ⟨insL m.k.l n, false⟩) ⟨m.v.l.take (lbF m.k.l n) ++ [v] ++ m.v.l.drop (lbF m.k.l n), false⟩) := by
  have := lbF_le m.k.l n
  unfold laidF
  rw [search_eq hs (by omega)]
  simp only [Option.bind_some]
  rw [with_ins (by omega) (by omega), with_ins (by omega) (by omega)]
  rfl
theorem cut_eq {m : Md} {i : Nat} (hl : m.k.l.length ≤ 1000) (hv : m.v.l.length = m.k.l.length) (hi : i < m.k.l.length) :
    cutF m i = some (Md.setV (Md.setK m ⟨cutL m.k.l i, (cutL m.k.l i).isEmpty⟩) ⟨cutL m.v.l i, (cutL m.v.l i).isEmpty⟩) := by
  unfold cutF
  rw [with_cut hi (by omega), with_cut (by omega) (by omega)]
  rfl
theorem sameF_refl' {m n : Md} (hq : ∀ i, (m.q i).l = (n.q i).l) (hk : m.k.l = n.k.l) (hv : m.v.l = n.v.l) (he : ∀ i, m.e i = n.e i) (hs : ∀ i, m.s i = n.s i) : sameF m n = true := by
  simp [sameF, eqL, hq, hk, hv, he, hs]
/-! ### The law -/
theorem up_of {l : List Int} (h : upF l = true) : l.Pairwise (· < ·) ∧ ∀ x ∈ l, 0 ≤ x ∧ x ≤ 65535 := by
  rw [upF_drop] at h
  simp only [Bool.and_eq_true, List.all_eq_true, decide_eq_true_eq] at h
  exact ⟨h.2, h.1⟩
structure Small (m : Md) : Prop where
  q : ∀ i, i < 8 → (m.q i).l.length ≤ 40
  k : m.k.l.length ≤ 40
  v : m.v.l.length = m.k.l.length
  up : m.k.l.Pairwise (· < ·)
  name : ∀ x ∈ m.k.l, 0 ≤ x ∧ x ≤ 65535
theorem small_of {m : Md} (h : smallF m = true) : Small m := by
  simp only [smallF, rightF, Bool.and_eq_true, List.all_eq_true, List.mem_range, decide_eq_true_eq] at h
  obtain ⟨h1, h2, h3, h4, h5⟩ := h
  exact ⟨h1, h2, h5, (up_of h4).1, (up_of h4).2⟩
theorem okM_of {m : Md} (hq : ∀ i, i < 8 → (m.q i).l.length ≤ 1000000) (hk : m.k.l.length ≤ 1000000) (hv : m.v.l.length ≤ 1000000) : okM m = true := by
  simp only [okM, Bool.and_eq_true, List.all_eq_true, List.mem_range, decide_eq_true_eq]
  exact ⟨hq, hk, hv⟩
/-- What is taken of a name's key. -/
theorem take_name {m : Md} (hs : m.k.l.Pairwise (· < ·)) (hl : m.k.l.length ≤ 1000) {n : Int} (hn : 0 ≤ n ∧ n ≤ 65535) (kind v c b : Int) (hk : 4 ≤ kind ∧ kind ≤ 8) :
    takeFM m ⟨c, kind, ordF n, b, v⟩ =
      if kind = 5 then some (m, decide (n ∈ m.k.l))
      else if kind = 8 then some (m, decide (n ∈ m.k.l))
      else if kind = 7 then some (m, !decide (n ∈ m.k.l))
      else if decide (n ∈ m.k.l) ≠ decide (kind = 6) then some (m, false)
      else if decide (n ∈ m.k.l) then (cutF m (lbF m.k.l n : Nat)).bind fun y => some (y, true)
      else (laidF m n v).bind fun y => some (y, true) := by
  unfold takeFM
  simp only
  rw [if_neg (by omega), if_pos hk]
  unfold namedFM
  simp only
  rw [unord_ord hn, search_eq hs (by omega)]
  simp only [Option.bind_some]
  rw [if_neg (by simp)]
theorem names_law {m : Md} {n v : Int} (hn : 0 ≤ n ∧ n ≤ 65535) : f9 m n v = some (.bool true) := by
  unfold f9
  by_cases hsm : smallF m = true
  rotate_left 1
  · rw [if_pos (by simpa using hsm)]
  rw [if_neg (by simp [hsm])]
  have S := small_of hsm
  have hw : IntKind.wrap .i64 n = n := w64_idc (by omega)
  rw [hw]
  have hk := S.k
  have hv := S.v
  have t5 := take_name S.up (by omega) hn 5 0 0 0 (by omega)
  have t7 := take_name S.up (by omega) hn 7 0 0 0 (by omega)
  have t4 := take_name S.up (by omega) hn 4 v 0 0 (by omega)
  have t6 := take_name S.up (by omega) hn 6 0 0 0 (by omega)
  have te : takeFM m ⟨0, 7, w64 (ordF n - 1), 0, 0⟩ = some (m, false) := by
    obtain ⟨r, h1, h2⟩ := revF_nat n
    have hwe : w64 (ordF n - 1) = ordF n - 1 := w64_idc (by unfold ordF; rw [h1]; omega)
    unfold takeFM
    simp only
    rw [if_neg (by omega), if_pos (by omega)]
    unfold namedFM
    simp only
    rw [hwe, unord_even, search_eq S.up (by omega)]
    rfl
  by_cases hm : n ∈ m.k.l
  · -- it is there
    have hlt : lbF m.k.l n < m.k.l.length := ((mem_lb S.up).1 hm).1
    rw [cut_eq (by omega) hv hlt] at t6
    simp only [hm, decide_true] at t5 t7 t4 t6
    simp at t5 t7 t4 t6
    rw [t5, t7, t4]
    simp only [Option.bind_some]
    rw [t4, t6]
    simp only [Option.bind_some]
    -- behind the cut
    have hup := cutL_up S.up (lbF m.k.l n)
    have hnot := cutL_not S.up (x := n)
    have hlen := cutL_len m.k.l (lbF m.k.l n)
    have t6' := take_name (m := Md.setV (Md.setK m ⟨cutL m.k.l (lbF m.k.l n), (cutL m.k.l (lbF m.k.l n)).isEmpty⟩) ⟨cutL m.v.l (lbF m.k.l n), (cutL m.v.l (lbF m.k.l n)).isEmpty⟩) hup (by show (cutL m.k.l (lbF m.k.l n)).length ≤ 1000; omega) hn 6 0 0 0 (by omega)
    have hno : ¬ n ∈ (Md.setV (Md.setK m ⟨cutL m.k.l (lbF m.k.l n), (cutL m.k.l (lbF m.k.l n)).isEmpty⟩) ⟨cutL m.v.l (lbF m.k.l n), (cutL m.v.l (lbF m.k.l n)).isEmpty⟩).k.l := hnot
    simp only [hno, decide_false] at t6'
    simp at t6'
    rw [t6', te]
    simp
  · -- it isn't
    rw [laid_eq S.up (by omega) hv] at t4
    simp only [hm, decide_false] at t5 t7 t4
    simp at t5 t7 t4
    rw [t5, t7, t4]
    simp only [Option.bind_some]
    have hle := lbF_le m.k.l n
    have hup := insL_up S.up hm
    have hlen := insL_len (l := m.k.l) (x := n)
    generalize hM : (m.setK { l := insL m.k.l n, c := false }).setV { l := m.v.l.take (lbF m.k.l n) ++ v :: m.v.l.drop (lbF m.k.l n), c := false } = M at *
    have hMk : M.k.l = insL m.k.l n := by rw [← hM]; rfl
    have hMv : M.v.l = m.v.l.take (lbF m.k.l n) ++ [v] ++ m.v.l.drop (lbF m.k.l n) := by rw [← hM]; simp [Md.setV, Md.setK]
    have hMq : M.q = m.q := by rw [← hM]; rfl
    have hMe : M.e = m.e := by rw [← hM]; rfl
    have hMs : M.s = m.s := by rw [← hM]; rfl
    have hMv' : M.v.l.length = M.k.l.length := by rw [hMv, hMk, hlen]; simp; omega
    have u4 := take_name (m := M) (by rw [hMk]; exact hup) (by rw [hMk]; omega) hn 4 v 0 0 (by omega)
    have u6 := take_name (m := M) (by rw [hMk]; exact hup) (by rw [hMk]; omega) hn 6 0 0 0 (by omega)
    have hin : n ∈ M.k.l := by rw [hMk]; exact insL_mem
    have hlb : lbF M.k.l n = lbF m.k.l n := by rw [hMk]; exact insL_lb
    rw [hlb, cut_eq (by rw [hMk]; omega) hMv' (by rw [hMk]; omega)] at u6
    simp only [hin, decide_true] at u4 u6
    simp at u4 u6
    rw [u4, u6]
    simp only [Option.bind_some]
    have hck : cutL M.k.l (lbF m.k.l n) = m.k.l := by rw [hMk]; exact cut_ins _ _ _ hle
    have hcv : cutL M.v.l (lbF m.k.l n) = m.v.l := by rw [hMv]; exact cut_ins _ _ _ (by omega)
    rw [hck, hcv]
    have w6 := take_name (m := (M.setK { l := m.k.l, c := m.k.l.isEmpty }).setV { l := m.v.l, c := m.v.l.isEmpty }) S.up (by show m.k.l.length ≤ 1000; omega) hn 6 0 0 0 (by omega)
    have hno : ¬ n ∈ ((M.setK { l := m.k.l, c := m.k.l.isEmpty }).setV { l := m.v.l, c := m.v.l.isEmpty }).k.l := hm
    simp only [hno, decide_false] at w6
    simp at w6
    rw [w6, te]
    simp
    refine ⟨okM_of (fun i hi => ?_) (by show m.k.l.length ≤ _; omega) (by show m.v.l.length ≤ _; omega), sameF_refl' (fun i => ?_) rfl rfl (fun i => ?_) (fun i => ?_)⟩
    · have := S.q i hi
      show (M.q i).l.length ≤ _
      rw [hMq]; omega
    · show (M.q i).l = _; rw [hMq]
    · show M.e i = _; rw [hMe]
    · show M.s i = _; rw [hMs]
theorem names_ok {m : Md} {n v : Int} (hn : 0 ≤ n ∧ n ≤ 65535) : Spec FF 9 [m.av, .int .u16 n, .int .i64 v] (.bool true) := f9_ok m n v (names_law hn)
end Go.Proofs.Hz
namespace Go.Proofs.Ytpidaficnfaedaa
open Go.ChangeShapes Go.WideShapes Go.ChangeAt Go.RowKit Go.Proofs.Hz

theorem own : ownKnob Try.prog.godebug = none := by kernel_rfl
theorem laidOut : laidOutB Try.prog = true := by kernel_rfl
theorem u3 : Try.prog.underlying 3 = some (.int .i64) := by kernel_rfl
theorem u4 : Try.prog.underlying 4 = some .bool := by kernel_rfl
theorem u22 : Try.prog.underlying 22 = some (.slice 3) := by kernel_rfl
theorem u23 : Try.prog.underlying 23 = some (.array 8 22) := by kernel_rfl
theorem u24 : Try.prog.underlying 24 = some (.array 16 4) := by kernel_rfl
theorem u46 : Try.prog.underlying 46 = some (.int .u16) := by kernel_rfl
theorem u26 : ∃ fs : Array Field, Try.prog.underlying 26 = some (.struct fs) ∧ fs.toList.map (·.type) = [23, 22, 22, 24, 24] := ⟨_, rfl, by kernel_rfl⟩

theorem row_of {n : Nat} {xs : List AV} (h : SH Try.prog (n + 2) 22 xs) : ∃ x : Sl, xs = [x.av] := by
  unfold SH at h
  rw [u22] at h
  obtain ⟨els, c, rfl, _, he⟩ := h
  obtain ⟨l, rfl, _⟩ := ints_of u3 he
  exact ⟨⟨l, c⟩, rfl⟩
theorem bool_of {n : Nat} {xs : List AV} (h : SH Try.prog (n + 1) 4 xs) : ∃ b, xs = [.bool b] := by
  unfold SH at h
  rw [u4] at h
  exact h
theorem rows8 {n : Nat} : ∀ {parts : List (List AV)}, (∀ p ∈ parts, SH Try.prog (n + 2) 22 p) → ∃ l : List Sl, parts = l.map (fun x => [x.av])
  | [], _ => ⟨[], rfl⟩
  | p :: ps, h => by
    obtain ⟨l, rfl⟩ := rows8 fun q hq => h q (List.mem_cons_of_mem _ hq)
    obtain ⟨x, rfl⟩ := row_of (h p (List.mem_cons_self ..))
    exact ⟨x :: l, rfl⟩
theorem bools16 {n : Nat} : ∀ {parts : List (List AV)}, (∀ p ∈ parts, SH Try.prog (n + 1) 4 p) → ∃ l : List Bool, parts = l.map (fun x => [.bool x])
  | [], _ => ⟨[], rfl⟩
  | p :: ps, h => by
    obtain ⟨l, rfl⟩ := bools16 fun q hq => h q (List.mem_cons_of_mem _ hq)
    obtain ⟨x, rfl⟩ := bool_of (h p (List.mem_cons_self ..))
    exact ⟨x :: l, rfl⟩
theorem arr8 {n : Nat} {xs : List AV} (h : SH Try.prog (n + 3) 23 xs) : ∃ q : Nat → Sl, xs = [(q 0).av, (q 1).av, (q 2).av, (q 3).av, (q 4).av, (q 5).av, (q 6).av, (q 7).av] := by
  unfold SH at h
  rw [u23] at h
  obtain ⟨parts, rfl, hl, hp⟩ := h
  obtain ⟨l, rfl⟩ := rows8 hp
  simp only [List.length_map] at hl
  match l, hl with
  | [a, b, c, d, e, f, g, i], _ => exact ⟨fun j => [a, b, c, d, e, f, g, i].getD j default, rfl⟩
theorem arr16 {n : Nat} {xs : List AV} (h : SH Try.prog (n + 2) 24 xs) : ∃ e : Nat → Bool, xs = [.bool (e 0), .bool (e 1), .bool (e 2), .bool (e 3), .bool (e 4), .bool (e 5), .bool (e 6), .bool (e 7), .bool (e 8), .bool (e 9), .bool (e 10), .bool (e 11), .bool (e 12), .bool (e 13), .bool (e 14), .bool (e 15)] := by
  unfold SH at h
  rw [u24] at h
  obtain ⟨parts, rfl, hl, hp⟩ := h
  obtain ⟨l, rfl⟩ := bools16 hp
  simp only [List.length_map] at hl
  match l, hl with
  | [a0, a1, a2, a3, a4, a5, a6, a7, a8, a9, a10, a11, a12, a13, a14, a15], _ => exact ⟨fun j => [a0, a1, a2, a3, a4, a5, a6, a7, a8, a9, a10, a11, a12, a13, a14, a15].getD j false, rfl⟩
theorem model_of {n : Nat} {xs : List AV} (h : SH Try.prog (n + 4) 26 xs) : ∃ m : Md, xs = m.cells := by
  obtain ⟨fs, hu, hf⟩ := u26
  unfold SH at h
  rw [hu] at h
  obtain ⟨parts, rfl, hl, hp⟩ := h
  have hfs : ∀ i t, [23, 22, 22, 24, 24][i]? = some t → ∃ f : Field, fs[i]? = some f ∧ f.type = t := fun i t ht => by
    rw [← hf, List.getElem?_map, Option.map_eq_some_iff] at ht
    obtain ⟨f, h1, h2⟩ := ht
    exact ⟨f, by rwa [Array.getElem?_toList] at h1, h2⟩
  have h5 : parts.length = 5 := by
    have := congrArg List.length hf
    simp at this
    omega
  match parts, h5 with
  | [p0, p1, p2, p3, p4], _ =>
    have get : ∀ i t p, [23, 22, 22, 24, 24][i]? = some t → [p0, p1, p2, p3, p4][i]? = some p → SH Try.prog (n + 3) t p := fun i t p ht hq => by
      obtain ⟨f, h1, h2⟩ := hfs i t ht
      rw [← h2]; exact hp i f p h1 hq
    obtain ⟨q, rfl⟩ := arr8 (get 0 23 p0 rfl rfl)
    obtain ⟨k, rfl⟩ := row_of (get 1 22 p1 rfl rfl)
    obtain ⟨v, rfl⟩ := row_of (get 2 22 p2 rfl rfl)
    obtain ⟨e, rfl⟩ := arr16 (get 3 24 p3 rfl rfl)
    obtain ⟨s, rfl⟩ := arr16 (get 4 24 p4 rfl rfl)
    exact ⟨⟨q, k, v, e, s⟩, rfl⟩
theorem argV26 (xs : List AV) : argV Try.prog 26 xs = .agg xs := by
  obtain ⟨fs, hu, _⟩ := u26
  unfold argV; rw [hu]
/-- A model, as an argument. -/
theorem arg_model {H : Type} {enc : TypeId × Value → H} {w : World} {v : Value} {d : DataW H} {ps : List MemPlace} {base : Nat} (hval : Value.okWide Try.prog w .any base 26 v) (h : DataW.Trod enc Try.prog w 0 (fun _ => true) true 26 v d ps) :
    ∃ m : Md, R (fun b => b < w.heap.size) w Ids.none Ren.none m.av v := by
  obtain ⟨xs, hS, hR⟩ := arg_abs (n := 6) (by kernel_rfl) hval h
  obtain ⟨m, rfl⟩ := model_of hS
  rw [argV26] at hR
  exact ⟨m, hR⟩

set_option maxRecDepth 100000 in
theorem names_lifted (os : Os) (started : os.Started) (H : Type) (enc : TypeId × Value → H) :
    ReturnsInHanded {} Try.checked os 9 .any (Rows.modelNamesSpec.pre6 enc Try.prog Try.f9 Rows.modelNamesRow.domain false) (Rows.modelNamesSpec.post enc Try.prog Try.f9 false true false false) := by
  refine returnsInHanded_of_change (C := Try.checked) own started (by kernel_rfl) Try.func9
    (ChangeSpec.witness6 (enc := enc) (C := Try.checked) false ⟨#[], #[.agg #[.slice none 0 0, .slice none 0 0, .slice none 0 0, .slice none 0 0, .slice none 0 0, .slice none 0 0, .slice none 0 0, .slice none 0 0, .slice none 0 0, .slice none 0 0,
      .bool false, .bool false, .bool false, .bool false, .bool false, .bool false, .bool false, .bool false, .bool false, .bool false, .bool false, .bool false, .bool false, .bool false, .bool false, .bool false,
      .bool false, .bool false, .bool false, .bool false, .bool false, .bool false, .bool false, .bool false, .bool false, .bool false, .bool false, .bool false, .bool false, .bool false, .bool false, .bool false], .int .u16 0, .int .i64 0], []⟩ 8 (by kernel_rfl) (by kernel_rfl) (by kernel_rfl) (by kernel_rfl)) ?_
  intro W base args ds gs before hval0 hW hcnd _
  have hval : ∀ (j : Nat) t v, Try.f9.params[j]? = some t → args[j]? = some v → Value.okWide Try.prog W .any base t v := hval0
  have hW' := hW
  obtain ⟨p, q, hA0, hV, rfl, hfz, hnd⟩ := hW
  have hA : DataW.TrodAll enc Try.prog W 0 (fun _ => true) true Try.f9.params.toList args.toList ds p := hA0
  have hA1 := hA
  rw [Try.params9] at hA hval
  obtain ⟨v0, v1, v2, d0, d1, d2, p0, p1, p2, rfl, rfl, rfl, h0, h1, h2⟩ := trodAll_three hA
  obtain ⟨rfl, rfl⟩ := trodVars_none hV
  obtain ⟨m, hm⟩ := arg_model (hval 0 26 v0 rfl rfl) h0
  obtain ⟨n, rfl, rfl, rfl, wn⟩ := open_int u46 (hval 1 46 v1 rfl rfl) h1
  obtain ⟨x, rfl, rfl, rfl, wx⟩ := open_int u3 (hval 2 3 v2 rfl rfl) h2
  have hn := bounds_u16 wn
  simp only [List.append_nil] at hW'
  have hR : RL (fun b => b < W.heap.size) W Ids.none Ren.none [m.av, .int .u16 n, .int .i64 x] [v0, .int .u16 n, .int .i64 x] := RL.cons hm (RL.cons (.int _ _) (RL.cons (.int _ _) RL.nil))
  refine (law_calls (pu := puN) (F := FF) (fun f af h => h) (names_ok hn) hR).mono fun e W' ⟨he, hw⟩ => ?_
  subst he
  exact ⟨_, rfl, law_post (P := Try.prog) laidOut rfl hW' (by simpa using hA1) rfl (by kernel_rfl) rfl u4 hw⟩

theorem names_holds : Rows.ModelNamesSaid :=
  OpenClaim.holds_of_wide 9 Try.f9 rfl rfl rfl rfl rfl rfl rfl ⟨rfl, rfl, rfl, rfl, rfl⟩ rfl rfl rfl rfl rfl (by kernel_rfl) Try.func9 (by kernel_rfl)
    (of_decide_eq_true (by kernel_rfl)) (by unfold Func.isWrapper; first | (rw [if_pos (by decide +kernel)]; kernel_rfl) | (rw [if_neg (by decide +kernel)]; exact ⟨rfl, rfl⟩))
    (fun os started H enc _ => names_lifted os started H enc)
end Go.Proofs.Ytpidaficnfaedaa
