/-
  'hazellaw17.ModelParts' returns true for every model and syscall, and its arguments read afterwards as they read before.
  Conditions: none.
-/
import Derived.Test.YtpidaficnfaedaaWh
import Derived.Test.YtpidaficnfaedaaWx
import Derived.Test.YtpidaficnfaedaaRows
import Derived.Test.YtpidaficnfaedaaN
import Derived.Test.YtpidaficnfaedaaHzRow
open Go Go.Proofs
namespace Go.Proofs.Hz
theorem f13_eq {m : Md} {c : Cl} {y : Md × Rs} (h : doF m c = some y) : f13 m c = some (.tup [y.1.av, y.2.av]) := by
  have hr : roomB = 140737488355328 := rfl
  unfold doF at h
  by_cases hm : mayF c = true
  rotate_left 1
  · rw [if_neg hm] at h
    cases h
    unfold f13 decE
    rw [if_neg hm]
    rfl
  rw [if_pos hm] at h
  have hmay := (may_iff c).1 hm
  unfold f13 decE
  rw [if_pos hm, if_pos rfl]
  cases hs : searchF m.k.l c.a with
  | none => rw [hs] at h; cases h
  | some s =>
    rw [hs] at h
    simp only [Option.bind_some] at h ⊢
    by_cases h0 : c.no = 0
    · rw [if_pos h0] at h ⊢
      obtain ⟨j, hj⟩ : ∃ j : Nat, c.a = j := ⟨c.a.toNat, by omega⟩
      rw [hj, Int.toNat_natCast] at h
      split at h
      · rename_i hl
        cases h
        have one : ∀ (p : Int) (hp : p = j) (l : List Int), l = (m.q j).l → (if (List.length l + List.length [c.b]) * 8 ≤ roomB ∧ List.length l + List.length [c.b] ≤ roomB then Option.bind (sentF m p ⟨(l ++ [c.b]), false⟩) fun x5 => some (AV.tup [(Md.av x5), (.agg [(.int .i64 0), (.int .i64 0)])]) else none) = some (.tup [(m.setQ j ⟨(m.q j).l ++ [c.b], false⟩).av, (Rs.mk 0 0).av]) := by
          intro p hp l hl'
          subst hp; subst hl'
          have hs : ∀ z, sentF m (j : Int) z = some (m.setQ j z) := fun z => by unfold sentF; rw [if_pos (by omega), Int.toNat_natCast]
          rw [if_pos (by rw [hr]; simp only [List.length_cons, List.length_nil]; omega), hs]
          rfl
        clear hl
        rw [hj]
        have hj' : j = 0 ∨ j = 1 ∨ j = 2 ∨ j = 3 ∨ j = 4 ∨ j = 5 ∨ j = 6 ∨ j = 7 := by omega
        rcases hj' with rfl | rfl | rfl | rfl | rfl | rfl | rfl | rfl
        · rw [if_pos (by decide)]; exact one _ rfl _ rfl
        · rw [if_neg (by decide), if_pos (by decide)]; exact one _ rfl _ rfl
        · rw [if_neg (by decide), if_neg (by decide), if_pos (by decide)]; exact one _ rfl _ rfl
        · rw [if_neg (by decide), if_neg (by decide), if_neg (by decide), if_pos (by decide)]; exact one _ rfl _ rfl
        · rw [if_neg (by decide), if_neg (by decide), if_neg (by decide), if_neg (by decide), if_pos (by decide)]; exact one _ rfl _ rfl
        · rw [if_neg (by decide), if_neg (by decide), if_neg (by decide), if_neg (by decide), if_neg (by decide), if_pos (by decide)]; exact one _ rfl _ rfl
        · rw [if_neg (by decide), if_neg (by decide), if_neg (by decide), if_neg (by decide), if_neg (by decide), if_neg (by decide), if_pos (by decide)]; exact one _ rfl _ rfl
        · rw [if_neg (by decide), if_neg (by decide), if_neg (by decide), if_neg (by decide), if_neg (by decide), if_neg (by decide), if_neg (by decide), if_pos (by decide)]; exact one _ rfl _ rfl
      · cases h
    rw [if_neg h0] at h ⊢
    by_cases h12 : c.no = 1 ∨ c.no = 2
    · rw [if_pos h12] at h
      obtain ⟨j, hj⟩ : ∃ j : Nat, c.a = j := ⟨c.a.toNat, by omega⟩
      rw [hj, Int.toNat_natCast] at h
      have one : ∀ (p : Int) (hp : p = j) (l : List Int) (k : Bool) (e : Int), l = (m.q j).l → k = (m.q j).c → e = (if c.no = 1 then 6 else 3) →
          (if (List.length l : Int) > 0 then
            if 0 ≤ 1 ∧ 1 ≤ (List.length l : Int) then Option.bind (sentF m p ⟨(List.drop (Int.toNat 1) l), k⟩) fun x7 => Option.bind (l[Int.toNat 0]?) fun x8 => some (AV.tup [(Md.av x7), (.agg [(.int .i64 x8), (.int .i64 0)])]) else none
          else some (.tup [(Md.av m), (.agg [(.int .i64 0), (.int .i64 e)])])) = some (.tup [y.1.av, y.2.av]) := by
        intro p hp l k e hl hk he
        subst hp
        have hs : ∀ z, sentF m (j : Int) z = some (m.setQ j z) := fun z => by unfold sentF; rw [if_pos (by omega), Int.toNat_natCast]
        rw [← hl, ← hk, ← he] at h
        cases l with
        | nil => cases h; rfl
        | cons z t =>
          cases h
          rw [if_pos (by simp only [List.length_cons]; omega), if_pos (by simp only [List.length_cons]; omega), hs]
          rfl
      clear h
      have hj' : j = 0 ∨ j = 1 ∨ j = 2 ∨ j = 3 ∨ j = 4 ∨ j = 5 ∨ j = 6 ∨ j = 7 := by omega
      by_cases h1 : c.no = 1
      · rw [if_pos h1, hj]
        have he : (6 : Int) = (if c.no = 1 then 6 else 3) := by rw [if_pos h1]
        rcases hj' with rfl | rfl | rfl | rfl | rfl | rfl | rfl | rfl
        · rw [if_pos (by decide)]; exact one _ rfl _ _ _ rfl rfl he
        · rw [if_neg (by decide), if_pos (by decide)]; exact one _ rfl _ _ _ rfl rfl he
        · rw [if_neg (by decide), if_neg (by decide), if_pos (by decide)]; exact one _ rfl _ _ _ rfl rfl he
        · rw [if_neg (by decide), if_neg (by decide), if_neg (by decide), if_pos (by decide)]; exact one _ rfl _ _ _ rfl rfl he
        · rw [if_neg (by decide), if_neg (by decide), if_neg (by decide), if_neg (by decide), if_pos (by decide)]; exact one _ rfl _ _ _ rfl rfl he
        · rw [if_neg (by decide), if_neg (by decide), if_neg (by decide), if_neg (by decide), if_neg (by decide), if_pos (by decide)]; exact one _ rfl _ _ _ rfl rfl he
        · rw [if_neg (by decide), if_neg (by decide), if_neg (by decide), if_neg (by decide), if_neg (by decide), if_neg (by decide), if_pos (by decide)]; exact one _ rfl _ _ _ rfl rfl he
        · rw [if_neg (by decide), if_neg (by decide), if_neg (by decide), if_neg (by decide), if_neg (by decide), if_neg (by decide), if_neg (by decide), if_pos (by decide)]; exact one _ rfl _ _ _ rfl rfl he
      · rw [if_neg h1, if_pos (by omega), hj]
        have he : (3 : Int) = (if c.no = 1 then 6 else 3) := by rw [if_neg h1]
        rcases hj' with rfl | rfl | rfl | rfl | rfl | rfl | rfl | rfl
        · rw [if_pos (by decide)]; exact one _ rfl _ _ _ rfl rfl he
        · rw [if_neg (by decide), if_pos (by decide)]; exact one _ rfl _ _ _ rfl rfl he
        · rw [if_neg (by decide), if_neg (by decide), if_pos (by decide)]; exact one _ rfl _ _ _ rfl rfl he
        · rw [if_neg (by decide), if_neg (by decide), if_neg (by decide), if_pos (by decide)]; exact one _ rfl _ _ _ rfl rfl he
        · rw [if_neg (by decide), if_neg (by decide), if_neg (by decide), if_neg (by decide), if_pos (by decide)]; exact one _ rfl _ _ _ rfl rfl he
        · rw [if_neg (by decide), if_neg (by decide), if_neg (by decide), if_neg (by decide), if_neg (by decide), if_pos (by decide)]; exact one _ rfl _ _ _ rfl rfl he
        · rw [if_neg (by decide), if_neg (by decide), if_neg (by decide), if_neg (by decide), if_neg (by decide), if_neg (by decide), if_pos (by decide)]; exact one _ rfl _ _ _ rfl rfl he
        · rw [if_neg (by decide), if_neg (by decide), if_neg (by decide), if_neg (by decide), if_neg (by decide), if_neg (by decide), if_neg (by decide), if_pos (by decide)]; exact one _ rfl _ _ _ rfl rfl he
    rw [if_neg h12] at h
    rw [if_neg (by omega), if_neg (by omega)]
    by_cases h3 : c.no = 3
    · rw [if_pos h3] at h ⊢
      by_cases hh : s.2 = true
      · rw [if_pos hh] at h ⊢; cases h; rfl
      · rw [if_neg hh] at h ⊢
        cases hL : laidF m c.a c.b with
        | none => rw [hL] at h; cases h
        | some z => rw [hL] at h; cases h; rfl
    rw [if_neg h3] at h ⊢
    have hs0 : 0 ≤ s.1 := by
      unfold searchF at hs
      split at hs
      · cases hs; simp only; omega
      · cases hs
    by_cases h4 : c.no = 4
    · rw [if_pos h4] at h ⊢
      by_cases hh : s.2 = true
      · rw [if_pos hh] at h
        rw [if_neg (by simp [hh]), if_pos hs0]
        cases hv : m.v.l[s.1.toNat]? with
        | none => rw [hv] at h; cases h
        | some v => rw [hv] at h; cases h; rfl
      · rw [if_neg hh] at h
        rw [if_pos (by simpa using hh)]
        cases h; rfl
    rw [if_neg h4] at h ⊢
    by_cases h5 : c.no = 5
    · rw [if_pos h5] at h ⊢
      by_cases hh : s.2 = true
      · rw [if_pos hh] at h
        rw [if_neg (by simp [hh]), if_pos hs0]
        cases hv : m.v.l[s.1.toNat]? with
        | none => rw [hv] at h; cases h
        | some v =>
          rw [hv] at h
          simp only [Option.bind_some] at h ⊢
          cases hc : cutF m s.1 with
          | none => rw [hc] at h; cases h
          | some z => rw [hc] at h; cases h; rfl
      · rw [if_neg hh] at h
        rw [if_pos (by simpa using hh)]
        cases h; rfl
    rw [if_neg h5] at h ⊢
    by_cases h67 : c.no = 6 ∨ c.no = 7
    · have hy : y = (m.setE c.a.toNat (decide (c.no = 6)), ⟨0, 0⟩) := by
        by_cases h6 : c.no = 6
        · rw [if_pos h6] at h; cases h; simp [h6]
        · rw [if_neg h6, if_pos (by omega)] at h; cases h; simp [h6]
      clear h
      subst hy
      obtain ⟨j, hj⟩ : ∃ j : Nat, c.a = j := ⟨c.a.toNat, by omega⟩
      have hj15 : j = 0 ∨ j = 1 ∨ j = 2 ∨ j = 3 ∨ j = 4 ∨ j = 5 ∨ j = 6 ∨ j = 7 ∨ j = 8 ∨ j = 9 ∨ j = 10 ∨ j = 11 ∨ j = 12 ∨ j = 13 ∨ j = 14 ∨ j = 15 := by omega
      rw [hj]
      generalize decide (c.no = 6) = B
      by_cases h6 : c.no = 6
      · rw [if_pos h6]
        rcases hj15 with rfl | rfl | rfl | rfl | rfl | rfl | rfl | rfl | rfl | rfl | rfl | rfl | rfl | rfl | rfl | rfl <;> simp [Rs.av]
      · rw [if_neg h6, if_pos (by omega)]
        rcases hj15 with rfl | rfl | rfl | rfl | rfl | rfl | rfl | rfl | rfl | rfl | rfl | rfl | rfl | rfl | rfl | rfl <;> simp [Rs.av]
    · rw [if_neg (by omega), if_neg (by omega)] at h
      rw [if_neg (by omega), if_neg (by omega)]
      by_cases h8 : c.no = 8
      · rw [if_pos h8] at h ⊢
        cases ht : testedF m c.a with
        | none => rw [ht] at h; cases h
        | some t => rw [ht] at h; cases h; rfl
      · rw [if_neg h8] at h ⊢
        cases h; rfl
theorem do_ok {m : Md} {c : Cl} {y : Md × Rs} (h : doF m c = some y) : Spec FF 13 [m.av, c.av] (.tup [y.1.av, y.2.av]) := f13_ok m c (f13_eq h)
end Go.Proofs.Hz
open Go Go.Proofs
namespace Go.Proofs.Hz
def f4 (m : Md) (c : Cl) : Option AV :=
  if (!(smallF m)) = true then
    some (.bool true)
  else
    Option.bind (doF m c) fun x1 =>
    if x1.2.e = 0 then
      if c.no ≤ 2 then
        if c.a = 0 then
          if List.length (Md.k x1.1).l ≤ 1000000 then if (rightF x1.1) = true then
            if okM x1.1 = true then some (.bool (sameF x1.1 (Md.setQ m 0 ⟨(x1.1.q 0).l, (x1.1.q 0).c⟩))) else none
          else
            none else none
        else
          if c.a = 1 then
            if List.length (Md.k x1.1).l ≤ 1000000 then if (rightF x1.1) = true then
              if okM x1.1 = true then some (.bool (sameF x1.1 (Md.setQ m 1 ⟨(x1.1.q 1).l, (x1.1.q 1).c⟩))) else none
            else
              none else none
          else
            if c.a = 2 then
              if List.length (Md.k x1.1).l ≤ 1000000 then if (rightF x1.1) = true then
                if okM x1.1 = true then some (.bool (sameF x1.1 (Md.setQ m 2 ⟨(x1.1.q 2).l, (x1.1.q 2).c⟩))) else none
              else
                none else none
            else
              if c.a = 3 then
                if List.length (Md.k x1.1).l ≤ 1000000 then if (rightF x1.1) = true then
                  if okM x1.1 = true then some (.bool (sameF x1.1 (Md.setQ m 3 ⟨(x1.1.q 3).l, (x1.1.q 3).c⟩))) else none
                else
                  none else none
              else
                if c.a = 4 then
                  if List.length (Md.k x1.1).l ≤ 1000000 then if (rightF x1.1) = true then
                    if okM x1.1 = true then some (.bool (sameF x1.1 (Md.setQ m 4 ⟨(x1.1.q 4).l, (x1.1.q 4).c⟩))) else none
                  else
                    none else none
                else
                  if c.a = 5 then
                    if List.length (Md.k x1.1).l ≤ 1000000 then if (rightF x1.1) = true then
                      if okM x1.1 = true then some (.bool (sameF x1.1 (Md.setQ m 5 ⟨(x1.1.q 5).l, (x1.1.q 5).c⟩))) else none
                    else
                      none else none
                  else
                    if c.a = 6 then
                      if List.length (Md.k x1.1).l ≤ 1000000 then if (rightF x1.1) = true then
                        if okM x1.1 = true then some (.bool (sameF x1.1 (Md.setQ m 6 ⟨(x1.1.q 6).l, (x1.1.q 6).c⟩))) else none
                      else
                        none else none
                    else
                      if c.a = 7 then if List.length (Md.k x1.1).l ≤ 1000000 then if (rightF x1.1) = true then
                        if okM x1.1 = true then some (.bool (sameF x1.1 (Md.setQ m 7 ⟨(x1.1.q 7).l, (x1.1.q 7).c⟩))) else none
                      else
                        none else none else none
      else
        if c.no ≤ 5 then
          if List.length (Md.k x1.1).l ≤ 1000000 then if (rightF x1.1) = true then
            if okM x1.1 = true then some (.bool (sameF x1.1 (Md.setV (Md.setK m ⟨x1.1.k.l, x1.1.k.c⟩) ⟨x1.1.v.l, x1.1.v.c⟩))) else none
          else
            none else none
        else
          if c.no ≤ 8 then
            if c.a = 0 then
              if List.length (Md.k x1.1).l ≤ 1000000 then if (rightF x1.1) = true then
                if okM x1.1 = true then some (.bool (sameF x1.1 (Md.setE m 0 (x1.1.e 0)))) else none
              else
                none else none
            else
              if c.a = 1 then
                if List.length (Md.k x1.1).l ≤ 1000000 then if (rightF x1.1) = true then
                  if okM x1.1 = true then some (.bool (sameF x1.1 (Md.setE m 1 (x1.1.e 1)))) else none
                else
                  none else none
              else
                if c.a = 2 then
                  if List.length (Md.k x1.1).l ≤ 1000000 then if (rightF x1.1) = true then
                    if okM x1.1 = true then some (.bool (sameF x1.1 (Md.setE m 2 (x1.1.e 2)))) else none
                  else
                    none else none
                else
                  if c.a = 3 then
                    if List.length (Md.k x1.1).l ≤ 1000000 then if (rightF x1.1) = true then
                      if okM x1.1 = true then some (.bool (sameF x1.1 (Md.setE m 3 (x1.1.e 3)))) else none
                    else
                      none else none
                  else
                    if c.a = 4 then
                      if List.length (Md.k x1.1).l ≤ 1000000 then if (rightF x1.1) = true then
                        if okM x1.1 = true then some (.bool (sameF x1.1 (Md.setE m 4 (x1.1.e 4)))) else none
                      else
                        none else none
                    else
                      if c.a = 5 then
                        if List.length (Md.k x1.1).l ≤ 1000000 then if (rightF x1.1) = true then
                          if okM x1.1 = true then some (.bool (sameF x1.1 (Md.setE m 5 (x1.1.e 5)))) else none
                        else
                          none else none
                      else
                        if c.a = 6 then
                          if List.length (Md.k x1.1).l ≤ 1000000 then if (rightF x1.1) = true then
                            if okM x1.1 = true then some (.bool (sameF x1.1 (Md.setE m 6 (x1.1.e 6)))) else none
                          else
                            none else none
                        else
                          if c.a = 7 then
                            if List.length (Md.k x1.1).l ≤ 1000000 then if (rightF x1.1) = true then
                              if okM x1.1 = true then some (.bool (sameF x1.1 (Md.setE m 7 (x1.1.e 7)))) else none
                            else
                              none else none
                          else
                            if c.a = 8 then
                              if List.length (Md.k x1.1).l ≤ 1000000 then if (rightF x1.1) = true then
                                if okM x1.1 = true then some (.bool (sameF x1.1 (Md.setE m 8 (x1.1.e 8)))) else none
                              else
                                none else none
                            else
                              if c.a = 9 then
                                if List.length (Md.k x1.1).l ≤ 1000000 then if (rightF x1.1) = true then
                                  if okM x1.1 = true then some (.bool (sameF x1.1 (Md.setE m 9 (x1.1.e 9)))) else none
                                else
                                  none else none
                              else
                                if c.a = 10 then
                                  if List.length (Md.k x1.1).l ≤ 1000000 then if (rightF x1.1) = true then
                                    if okM x1.1 = true then some (.bool (sameF x1.1 (Md.setE m 10 (x1.1.e 10)))) else none
                                  else
                                    none else none
                                else
                                  if c.a = 11 then
                                    if List.length (Md.k x1.1).l ≤ 1000000 then if (rightF x1.1) = true then
                                      if okM x1.1 = true then some (.bool (sameF x1.1 (Md.setE m 11 (x1.1.e 11)))) else none
                                    else
                                      none else none
                                  else
                                    if c.a = 12 then
                                      if List.length (Md.k x1.1).l ≤ 1000000 then if (rightF x1.1) = true then
                                        if okM x1.1 = true then some (.bool (sameF x1.1 (Md.setE m 12 (x1.1.e 12)))) else none
                                      else
                                        none else none
                                    else
                                      if c.a = 13 then
                                        if List.length (Md.k x1.1).l ≤ 1000000 then if (rightF x1.1) = true then
                                          if okM x1.1 = true then some (.bool (sameF x1.1 (Md.setE m 13 (x1.1.e 13)))) else none
                                        else
                                          none else none
                                      else
                                        if c.a = 14 then
                                          if List.length (Md.k x1.1).l ≤ 1000000 then if (rightF x1.1) = true then
                                            if okM x1.1 = true then some (.bool (sameF x1.1 (Md.setE m 14 (x1.1.e 14)))) else none
                                          else
                                            none else none
                                        else
                                          if c.a = 15 then if List.length (Md.k x1.1).l ≤ 1000000 then if (rightF x1.1) = true then
                                            if okM x1.1 = true then some (.bool (sameF x1.1 (Md.setE m 15 (x1.1.e 15)))) else none
                                          else
                                            none else none else none
          else
            if List.length (Md.k x1.1).l ≤ 1000000 then if (rightF x1.1) = true then
              if okM x1.1 = true then some (.bool (sameF x1.1 m)) else none
            else
              none else none
    else
      if okM x1.1 = true then if (sameF x1.1 m) = true then
        some (.bool (decide (x1.2.v = 0)))
      else
        none else none
def f4W : List AV := [(.agg (vF 0 10 ++ vT 0 32)), (.agg [(vt 32), (vt 33), (vt 34)])]
def f4V (m : Md) (c : Cl) (σ : Nat → Nat) : Val := (valL (ap (mdT m) ([.int .i64 c.no, .int .i64 c.a, .int .i64 c.b])) (mdF m) [] σ 0)
def f4X (m : Md) (c : Cl) (_σ : Nat → Nat) : List AV := [(Md.av m), (.agg [(.int .i64 c.no), (.int .i64 c.a), (.int .i64 c.b)])]
def f4Y (_m : Md) (_c : Cl) (_σ : Nat → Nat) : List Blk := []
theorem f4E (m : Md) (c : Cl) (σ : Nat → Nat) : f4W.map (gm (f4V m c σ)) = f4X m c σ := by kernel_rfl
theorem f4G (m : Md) (c : Cl) (σ : Nat → Nat) : ([] : List Blk).map (gB (f4V m c σ)) = f4Y m c σ := by kernel_rfl
set_option maxHeartbeats 10000000 in
theorem f4_ok (m : Md) (c : Cl) {r0 : AV} (h : f4 m c = some r0) : Spec FF 4 [(Md.av m), (.agg [(.int .i64 c.no), (.int .i64 c.a), (.int .i64 c.b)])] r0 := by
  unfold f4 at h
  have hσ : ∀ i j : Nat, (fun i : Nat => i) i = (fun i : Nat => i) j → i = j := fun _ _ e => e
  exact spec_begin (ρ := f4V m c (fun i => i)) (xs := f4W) (by kernel_rfl) rfl rfl (by kernel_rfl) (fun z0 S => have H := Tok.start hσ S 0 35 10 0 (ap (mdT m) ([.int .i64 c.no, .int .i64 c.a, .int .i64 c.b])) (mdF m) [] (mdF_ok m) .n (f4E m c _) (f4G m c _); have H := H.t 37 [.bool (smallF m), .bool (!(smallF m))] |>.r [(.un .not (cT 35), (vt 36))] |>.s [] (.bool true) shown_ok |>.s [(.agg (vF 0 10 ++ vT 0 32))] (vt 35) (small_ok m); iteE h (fun h0 h => have H := H.m 36 true h0; H.e [] h) (fun h0 h => have H := H.m 36 false (bF h0); bindE h (fun x1 h1 h => have H := H.t 69 (mdT x1.1) |>.t 72 [.int .i64 x1.2.v, .int .i64 x1.2.e, .bool (!decide (x1.2.e = 0))] |>.f 20 (mdF x1.1) (mdF_ok x1.1) |>.r [(.bin .neq (cT 70) (cI 0), (vt 71))] |>.s [(.agg (vF 0 10 ++ vT 0 32)), (.agg [(vt 32), (vt 33), (vt 34)])] (.tup [(.agg (vF 10 10 ++ vT 37 32)), (.agg [(vt 69), (vt 70)])]) (do_ok h1); iteE h (fun h2 h => have H := H.t 73 [.bool (decide (c.no ≤ 2))] |>.r [(.bin .leq (cT 32) (cI 2), (vt 72))] |>.m 71 false (nT h2); iteE h (fun h3 h => have H := H.m 72 true (decide_eq_true h3); iteE h (fun h4 h => have H := H.c (p := (.iaA 8 1 (.c (.ptr 2 0)) (cT 33), (.ptr 2 0))) (fun _ _ _ => fIaP (j := 0) (k := .i64) (n := c.a) (by kernel_rfl) h4 (by decide)) |>.c (p := (.iaA 8 1 (.c (.ptr 4 0)) (cT 33), (.ptr 4 0))) (fun _ _ _ => fIaP (j := 0) (k := .i64) (n := c.a) (by kernel_rfl) h4 (by decide)); reqE h (fun h5 h => have H := H.t 74 [.bool (rightF x1.1)] |>.s [(.agg (vF 10 10 ++ vT 37 32))] (vt 73) (right_ok x1.1 h5); iteE h (fun h6 h => have H := H.m 73 true h6; reqE h (fun h7 h => have H := H.t 75 [.bool (sameF x1.1 (Md.setQ m 0 ⟨(x1.1.q 0).l, (x1.1.q 0).c⟩))] |>.s [(.agg (vF 10 10 ++ vT 37 32)), (.agg ([(vf 10)] ++ vF 1 9 ++ vT 0 32))] (vt 74) (same15_ok x1.1 (Md.setQ m 0 ⟨(x1.1.q 0).l, (x1.1.q 0).c⟩) h7); H.e [] h)) (fun _ h => nomatch h))) (fun _ h => iteE h (fun h5 h => have H := H.c (p := (.iaA 8 1 (.c (.ptr 2 0)) (cT 33), (.ptr 2 1))) (fun _ _ _ => fIaP (j := 1) (k := .i64) (n := c.a) (by kernel_rfl) h5 (by decide)) |>.c (p := (.iaA 8 1 (.c (.ptr 4 0)) (cT 33), (.ptr 4 1))) (fun _ _ _ => fIaP (j := 1) (k := .i64) (n := c.a) (by kernel_rfl) h5 (by decide)); reqE h (fun h6 h => have H := H.t 74 [.bool (rightF x1.1)] |>.s [(.agg (vF 10 10 ++ vT 37 32))] (vt 73) (right_ok x1.1 h6); iteE h (fun h7 h => have H := H.m 73 true h7; reqE h (fun h8 h => have H := H.t 75 [.bool (sameF x1.1 (Md.setQ m 1 ⟨(x1.1.q 1).l, (x1.1.q 1).c⟩))] |>.s [(.agg (vF 10 10 ++ vT 37 32)), (.agg ([(vf 0), (vf 11)] ++ vF 2 8 ++ vT 0 32))] (vt 74) (same15_ok x1.1 (Md.setQ m 1 ⟨(x1.1.q 1).l, (x1.1.q 1).c⟩) h8); H.e [] h)) (fun _ h => nomatch h))) (fun _ h => iteE h (fun h6 h => have H := H.c (p := (.iaA 8 1 (.c (.ptr 2 0)) (cT 33), (.ptr 2 2))) (fun _ _ _ => fIaP (j := 2) (k := .i64) (n := c.a) (by kernel_rfl) h6 (by decide)) |>.c (p := (.iaA 8 1 (.c (.ptr 4 0)) (cT 33), (.ptr 4 2))) (fun _ _ _ => fIaP (j := 2) (k := .i64) (n := c.a) (by kernel_rfl) h6 (by decide)); reqE h (fun h7 h => have H := H.t 74 [.bool (rightF x1.1)] |>.s [(.agg (vF 10 10 ++ vT 37 32))] (vt 73) (right_ok x1.1 h7); iteE h (fun h8 h => have H := H.m 73 true h8; reqE h (fun h9 h => have H := H.t 75 [.bool (sameF x1.1 (Md.setQ m 2 ⟨(x1.1.q 2).l, (x1.1.q 2).c⟩))] |>.s [(.agg (vF 10 10 ++ vT 37 32)), (.agg ([(vf 0), (vf 1), (vf 12)] ++ vF 3 7 ++ vT 0 32))] (vt 74) (same15_ok x1.1 (Md.setQ m 2 ⟨(x1.1.q 2).l, (x1.1.q 2).c⟩) h9); H.e [] h)) (fun _ h => nomatch h))) (fun _ h => iteE h (fun h7 h => have H := H.c (p := (.iaA 8 1 (.c (.ptr 2 0)) (cT 33), (.ptr 2 3))) (fun _ _ _ => fIaP (j := 3) (k := .i64) (n := c.a) (by kernel_rfl) h7 (by decide)) |>.c (p := (.iaA 8 1 (.c (.ptr 4 0)) (cT 33), (.ptr 4 3))) (fun _ _ _ => fIaP (j := 3) (k := .i64) (n := c.a) (by kernel_rfl) h7 (by decide)); reqE h (fun h8 h => have H := H.t 74 [.bool (rightF x1.1)] |>.s [(.agg (vF 10 10 ++ vT 37 32))] (vt 73) (right_ok x1.1 h8); iteE h (fun h9 h => have H := H.m 73 true h9; reqE h (fun h10 h => have H := H.t 75 [.bool (sameF x1.1 (Md.setQ m 3 ⟨(x1.1.q 3).l, (x1.1.q 3).c⟩))] |>.s [(.agg (vF 10 10 ++ vT 37 32)), (.agg ([(vf 0), (vf 1), (vf 2), (vf 13)] ++ vF 4 6 ++ vT 0 32))] (vt 74) (same15_ok x1.1 (Md.setQ m 3 ⟨(x1.1.q 3).l, (x1.1.q 3).c⟩) h10); H.e [] h)) (fun _ h => nomatch h))) (fun _ h => iteE h (fun h8 h => have H := H.c (p := (.iaA 8 1 (.c (.ptr 2 0)) (cT 33), (.ptr 2 4))) (fun _ _ _ => fIaP (j := 4) (k := .i64) (n := c.a) (by kernel_rfl) h8 (by decide)) |>.c (p := (.iaA 8 1 (.c (.ptr 4 0)) (cT 33), (.ptr 4 4))) (fun _ _ _ => fIaP (j := 4) (k := .i64) (n := c.a) (by kernel_rfl) h8 (by decide)); reqE h (fun h9 h => have H := H.t 74 [.bool (rightF x1.1)] |>.s [(.agg (vF 10 10 ++ vT 37 32))] (vt 73) (right_ok x1.1 h9); iteE h (fun h10 h => have H := H.m 73 true h10; reqE h (fun h11 h => have H := H.t 75 [.bool (sameF x1.1 (Md.setQ m 4 ⟨(x1.1.q 4).l, (x1.1.q 4).c⟩))] |>.s [(.agg (vF 10 10 ++ vT 37 32)), (.agg (vF 0 4 ++ [(vf 14)] ++ vF 5 5 ++ vT 0 32))] (vt 74) (same15_ok x1.1 (Md.setQ m 4 ⟨(x1.1.q 4).l, (x1.1.q 4).c⟩) h11); H.e [] h)) (fun _ h => nomatch h))) (fun _ h => iteE h (fun h9 h => have H := H.c (p := (.iaA 8 1 (.c (.ptr 2 0)) (cT 33), (.ptr 2 5))) (fun _ _ _ => fIaP (j := 5) (k := .i64) (n := c.a) (by kernel_rfl) h9 (by decide)) |>.c (p := (.iaA 8 1 (.c (.ptr 4 0)) (cT 33), (.ptr 4 5))) (fun _ _ _ => fIaP (j := 5) (k := .i64) (n := c.a) (by kernel_rfl) h9 (by decide)); reqE h (fun h10 h => have H := H.t 74 [.bool (rightF x1.1)] |>.s [(.agg (vF 10 10 ++ vT 37 32))] (vt 73) (right_ok x1.1 h10); iteE h (fun h11 h => have H := H.m 73 true h11; reqE h (fun h12 h => have H := H.t 75 [.bool (sameF x1.1 (Md.setQ m 5 ⟨(x1.1.q 5).l, (x1.1.q 5).c⟩))] |>.s [(.agg (vF 10 10 ++ vT 37 32)), (.agg (vF 0 5 ++ [(vf 15)] ++ vF 6 4 ++ vT 0 32))] (vt 74) (same15_ok x1.1 (Md.setQ m 5 ⟨(x1.1.q 5).l, (x1.1.q 5).c⟩) h12); H.e [] h)) (fun _ h => nomatch h))) (fun _ h => iteE h (fun h10 h => have H := H.c (p := (.iaA 8 1 (.c (.ptr 2 0)) (cT 33), (.ptr 2 6))) (fun _ _ _ => fIaP (j := 6) (k := .i64) (n := c.a) (by kernel_rfl) h10 (by decide)) |>.c (p := (.iaA 8 1 (.c (.ptr 4 0)) (cT 33), (.ptr 4 6))) (fun _ _ _ => fIaP (j := 6) (k := .i64) (n := c.a) (by kernel_rfl) h10 (by decide)); reqE h (fun h11 h => have H := H.t 74 [.bool (rightF x1.1)] |>.s [(.agg (vF 10 10 ++ vT 37 32))] (vt 73) (right_ok x1.1 h11); iteE h (fun h12 h => have H := H.m 73 true h12; reqE h (fun h13 h => have H := H.t 75 [.bool (sameF x1.1 (Md.setQ m 6 ⟨(x1.1.q 6).l, (x1.1.q 6).c⟩))] |>.s [(.agg (vF 10 10 ++ vT 37 32)), (.agg (vF 0 6 ++ [(vf 16), (vf 7), (vf 8), (vf 9)] ++ vT 0 32))] (vt 74) (same15_ok x1.1 (Md.setQ m 6 ⟨(x1.1.q 6).l, (x1.1.q 6).c⟩) h13); H.e [] h)) (fun _ h => nomatch h))) (fun _ h => reqE h (fun h11 h => have H := H.c (p := (.iaA 8 1 (.c (.ptr 2 0)) (cT 33), (.ptr 2 7))) (fun _ _ _ => fIaP (j := 7) (k := .i64) (n := c.a) (by kernel_rfl) h11 (by decide)) |>.c (p := (.iaA 8 1 (.c (.ptr 4 0)) (cT 33), (.ptr 4 7))) (fun _ _ _ => fIaP (j := 7) (k := .i64) (n := c.a) (by kernel_rfl) h11 (by decide)); reqE h (fun h12 h => have H := H.t 74 [.bool (rightF x1.1)] |>.s [(.agg (vF 10 10 ++ vT 37 32))] (vt 73) (right_ok x1.1 h12); iteE h (fun h13 h => have H := H.m 73 true h13; reqE h (fun h14 h => have H := H.t 75 [.bool (sameF x1.1 (Md.setQ m 7 ⟨(x1.1.q 7).l, (x1.1.q 7).c⟩))] |>.s [(.agg (vF 10 10 ++ vT 37 32)), (.agg (vF 0 7 ++ [(vf 17), (vf 8), (vf 9)] ++ vT 0 32))] (vt 74) (same15_ok x1.1 (Md.setQ m 7 ⟨(x1.1.q 7).l, (x1.1.q 7).c⟩) h14); H.e [] h)) (fun _ h => nomatch h))))))))))) (fun h3 h => have H := H.t 74 [.bool (decide (c.no ≤ 5))] |>.r [(.bin .leq (cT 32) (cI 5), (vt 73))] |>.m 72 false (decide_eq_false h3); iteE h (fun h4 h => have H := H.m 73 true (decide_eq_true h4); reqE h (fun h5 h => have H := H.t 75 [.bool (rightF x1.1)] |>.s [(.agg (vF 10 10 ++ vT 37 32))] (vt 74) (right_ok x1.1 h5); iteE h (fun h6 h => have H := H.m 74 true h6; reqE h (fun h7 h => have H := H.t 76 [.bool (sameF x1.1 (Md.setV (Md.setK m ⟨x1.1.k.l, x1.1.k.c⟩) ⟨x1.1.v.l, x1.1.v.c⟩))] |>.s [(.agg (vF 10 10 ++ vT 37 32)), (.agg (vF 0 8 ++ [(vf 18), (vf 19)] ++ vT 0 32))] (vt 75) (same15_ok x1.1 (Md.setV (Md.setK m ⟨x1.1.k.l, x1.1.k.c⟩) ⟨x1.1.v.l, x1.1.v.c⟩) h7); H.e [] h)) (fun _ h => nomatch h))) (fun h4 h => have H := H.t 75 [.bool (decide (c.no ≤ 8))] |>.r [(.bin .leq (cT 32) (cI 8), (vt 74))] |>.m 73 false (decide_eq_false h4); iteE h (fun h5 h => have H := H.m 74 true (decide_eq_true h5); iteE h (fun h6 h => have H := H.c (p := (.iaA 16 1 (.c (.ptr 2 10)) (cT 33), (.ptr 2 10))) (fun _ _ _ => fIaP (j := 0) (k := .i64) (n := c.a) (by kernel_rfl) h6 (by decide)) |>.c (p := (.iaA 16 1 (.c (.ptr 4 10)) (cT 33), (.ptr 4 10))) (fun _ _ _ => fIaP (j := 0) (k := .i64) (n := c.a) (by kernel_rfl) h6 (by decide)); reqE h (fun h7 h => have H := H.t 76 [.bool (rightF x1.1)] |>.s [(.agg (vF 10 10 ++ vT 37 32))] (vt 75) (right_ok x1.1 h7); iteE h (fun h8 h => have H := H.m 75 true h8; reqE h (fun h9 h => have H := H.t 77 [.bool (sameF x1.1 (Md.setE m 0 (x1.1.e 0)))] |>.s [(.agg (vF 10 10 ++ vT 37 32)), (.agg (vF 0 10 ++ [(vt 37)] ++ vT 1 31))] (vt 76) (same15_ok x1.1 (Md.setE m 0 (x1.1.e 0)) h9); H.e [] h)) (fun _ h => nomatch h))) (fun _ h => iteE h (fun h7 h => have H := H.c (p := (.iaA 16 1 (.c (.ptr 2 10)) (cT 33), (.ptr 2 11))) (fun _ _ _ => fIaP (j := 1) (k := .i64) (n := c.a) (by kernel_rfl) h7 (by decide)) |>.c (p := (.iaA 16 1 (.c (.ptr 4 10)) (cT 33), (.ptr 4 11))) (fun _ _ _ => fIaP (j := 1) (k := .i64) (n := c.a) (by kernel_rfl) h7 (by decide)); reqE h (fun h8 h => have H := H.t 76 [.bool (rightF x1.1)] |>.s [(.agg (vF 10 10 ++ vT 37 32))] (vt 75) (right_ok x1.1 h8); iteE h (fun h9 h => have H := H.m 75 true h9; reqE h (fun h10 h => have H := H.t 77 [.bool (sameF x1.1 (Md.setE m 1 (x1.1.e 1)))] |>.s [(.agg (vF 10 10 ++ vT 37 32)), (.agg (vF 0 10 ++ [(vt 0), (vt 38)] ++ vT 2 30))] (vt 76) (same15_ok x1.1 (Md.setE m 1 (x1.1.e 1)) h10); H.e [] h)) (fun _ h => nomatch h))) (fun _ h => iteE h (fun h8 h => have H := H.c (p := (.iaA 16 1 (.c (.ptr 2 10)) (cT 33), (.ptr 2 12))) (fun _ _ _ => fIaP (j := 2) (k := .i64) (n := c.a) (by kernel_rfl) h8 (by decide)) |>.c (p := (.iaA 16 1 (.c (.ptr 4 10)) (cT 33), (.ptr 4 12))) (fun _ _ _ => fIaP (j := 2) (k := .i64) (n := c.a) (by kernel_rfl) h8 (by decide)); reqE h (fun h9 h => have H := H.t 76 [.bool (rightF x1.1)] |>.s [(.agg (vF 10 10 ++ vT 37 32))] (vt 75) (right_ok x1.1 h9); iteE h (fun h10 h => have H := H.m 75 true h10; reqE h (fun h11 h => have H := H.t 77 [.bool (sameF x1.1 (Md.setE m 2 (x1.1.e 2)))] |>.s [(.agg (vF 10 10 ++ vT 37 32)), (.agg (vF 0 10 ++ [(vt 0), (vt 1), (vt 39)] ++ vT 3 29))] (vt 76) (same15_ok x1.1 (Md.setE m 2 (x1.1.e 2)) h11); H.e [] h)) (fun _ h => nomatch h))) (fun _ h => iteE h (fun h9 h => have H := H.c (p := (.iaA 16 1 (.c (.ptr 2 10)) (cT 33), (.ptr 2 13))) (fun _ _ _ => fIaP (j := 3) (k := .i64) (n := c.a) (by kernel_rfl) h9 (by decide)) |>.c (p := (.iaA 16 1 (.c (.ptr 4 10)) (cT 33), (.ptr 4 13))) (fun _ _ _ => fIaP (j := 3) (k := .i64) (n := c.a) (by kernel_rfl) h9 (by decide)); reqE h (fun h10 h => have H := H.t 76 [.bool (rightF x1.1)] |>.s [(.agg (vF 10 10 ++ vT 37 32))] (vt 75) (right_ok x1.1 h10); iteE h (fun h11 h => have H := H.m 75 true h11; reqE h (fun h12 h => have H := H.t 77 [.bool (sameF x1.1 (Md.setE m 3 (x1.1.e 3)))] |>.s [(.agg (vF 10 10 ++ vT 37 32)), (.agg (vF 0 10 ++ [(vt 0), (vt 1), (vt 2), (vt 40)] ++ vT 4 28))] (vt 76) (same15_ok x1.1 (Md.setE m 3 (x1.1.e 3)) h12); H.e [] h)) (fun _ h => nomatch h))) (fun _ h => iteE h (fun h10 h => have H := H.c (p := (.iaA 16 1 (.c (.ptr 2 10)) (cT 33), (.ptr 2 14))) (fun _ _ _ => fIaP (j := 4) (k := .i64) (n := c.a) (by kernel_rfl) h10 (by decide)) |>.c (p := (.iaA 16 1 (.c (.ptr 4 10)) (cT 33), (.ptr 4 14))) (fun _ _ _ => fIaP (j := 4) (k := .i64) (n := c.a) (by kernel_rfl) h10 (by decide)); reqE h (fun h11 h => have H := H.t 76 [.bool (rightF x1.1)] |>.s [(.agg (vF 10 10 ++ vT 37 32))] (vt 75) (right_ok x1.1 h11); iteE h (fun h12 h => have H := H.m 75 true h12; reqE h (fun h13 h => have H := H.t 77 [.bool (sameF x1.1 (Md.setE m 4 (x1.1.e 4)))] |>.s [(.agg (vF 10 10 ++ vT 37 32)), (.agg (vF 0 10 ++ vT 0 4 ++ [(vt 41)] ++ vT 5 27))] (vt 76) (same15_ok x1.1 (Md.setE m 4 (x1.1.e 4)) h13); H.e [] h)) (fun _ h => nomatch h))) (fun _ h => iteE h (fun h11 h => have H := H.c (p := (.iaA 16 1 (.c (.ptr 2 10)) (cT 33), (.ptr 2 15))) (fun _ _ _ => fIaP (j := 5) (k := .i64) (n := c.a) (by kernel_rfl) h11 (by decide)) |>.c (p := (.iaA 16 1 (.c (.ptr 4 10)) (cT 33), (.ptr 4 15))) (fun _ _ _ => fIaP (j := 5) (k := .i64) (n := c.a) (by kernel_rfl) h11 (by decide)); reqE h (fun h12 h => have H := H.t 76 [.bool (rightF x1.1)] |>.s [(.agg (vF 10 10 ++ vT 37 32))] (vt 75) (right_ok x1.1 h12); iteE h (fun h13 h => have H := H.m 75 true h13; reqE h (fun h14 h => have H := H.t 77 [.bool (sameF x1.1 (Md.setE m 5 (x1.1.e 5)))] |>.s [(.agg (vF 10 10 ++ vT 37 32)), (.agg (vF 0 10 ++ vT 0 5 ++ [(vt 42)] ++ vT 6 26))] (vt 76) (same15_ok x1.1 (Md.setE m 5 (x1.1.e 5)) h14); H.e [] h)) (fun _ h => nomatch h))) (fun _ h => iteE h (fun h12 h => have H := H.c (p := (.iaA 16 1 (.c (.ptr 2 10)) (cT 33), (.ptr 2 16))) (fun _ _ _ => fIaP (j := 6) (k := .i64) (n := c.a) (by kernel_rfl) h12 (by decide)) |>.c (p := (.iaA 16 1 (.c (.ptr 4 10)) (cT 33), (.ptr 4 16))) (fun _ _ _ => fIaP (j := 6) (k := .i64) (n := c.a) (by kernel_rfl) h12 (by decide)); reqE h (fun h13 h => have H := H.t 76 [.bool (rightF x1.1)] |>.s [(.agg (vF 10 10 ++ vT 37 32))] (vt 75) (right_ok x1.1 h13); iteE h (fun h14 h => have H := H.m 75 true h14; reqE h (fun h15 h => have H := H.t 77 [.bool (sameF x1.1 (Md.setE m 6 (x1.1.e 6)))] |>.s [(.agg (vF 10 10 ++ vT 37 32)), (.agg (vF 0 10 ++ vT 0 6 ++ [(vt 43)] ++ vT 7 25))] (vt 76) (same15_ok x1.1 (Md.setE m 6 (x1.1.e 6)) h15); H.e [] h)) (fun _ h => nomatch h))) (fun _ h => iteE h (fun h13 h => have H := H.c (p := (.iaA 16 1 (.c (.ptr 2 10)) (cT 33), (.ptr 2 17))) (fun _ _ _ => fIaP (j := 7) (k := .i64) (n := c.a) (by kernel_rfl) h13 (by decide)) |>.c (p := (.iaA 16 1 (.c (.ptr 4 10)) (cT 33), (.ptr 4 17))) (fun _ _ _ => fIaP (j := 7) (k := .i64) (n := c.a) (by kernel_rfl) h13 (by decide)); reqE h (fun h14 h => have H := H.t 76 [.bool (rightF x1.1)] |>.s [(.agg (vF 10 10 ++ vT 37 32))] (vt 75) (right_ok x1.1 h14); iteE h (fun h15 h => have H := H.m 75 true h15; reqE h (fun h16 h => have H := H.t 77 [.bool (sameF x1.1 (Md.setE m 7 (x1.1.e 7)))] |>.s [(.agg (vF 10 10 ++ vT 37 32)), (.agg (vF 0 10 ++ vT 0 7 ++ [(vt 44)] ++ vT 8 24))] (vt 76) (same15_ok x1.1 (Md.setE m 7 (x1.1.e 7)) h16); H.e [] h)) (fun _ h => nomatch h))) (fun _ h => iteE h (fun h14 h => have H := H.c (p := (.iaA 16 1 (.c (.ptr 2 10)) (cT 33), (.ptr 2 18))) (fun _ _ _ => fIaP (j := 8) (k := .i64) (n := c.a) (by kernel_rfl) h14 (by decide)) |>.c (p := (.iaA 16 1 (.c (.ptr 4 10)) (cT 33), (.ptr 4 18))) (fun _ _ _ => fIaP (j := 8) (k := .i64) (n := c.a) (by kernel_rfl) h14 (by decide)); reqE h (fun h15 h => have H := H.t 76 [.bool (rightF x1.1)] |>.s [(.agg (vF 10 10 ++ vT 37 32))] (vt 75) (right_ok x1.1 h15); iteE h (fun h16 h => have H := H.m 75 true h16; reqE h (fun h17 h => have H := H.t 77 [.bool (sameF x1.1 (Md.setE m 8 (x1.1.e 8)))] |>.s [(.agg (vF 10 10 ++ vT 37 32)), (.agg (vF 0 10 ++ vT 0 8 ++ [(vt 45)] ++ vT 9 23))] (vt 76) (same15_ok x1.1 (Md.setE m 8 (x1.1.e 8)) h17); H.e [] h)) (fun _ h => nomatch h))) (fun _ h => iteE h (fun h15 h => have H := H.c (p := (.iaA 16 1 (.c (.ptr 2 10)) (cT 33), (.ptr 2 19))) (fun _ _ _ => fIaP (j := 9) (k := .i64) (n := c.a) (by kernel_rfl) h15 (by decide)) |>.c (p := (.iaA 16 1 (.c (.ptr 4 10)) (cT 33), (.ptr 4 19))) (fun _ _ _ => fIaP (j := 9) (k := .i64) (n := c.a) (by kernel_rfl) h15 (by decide)); reqE h (fun h16 h => have H := H.t 76 [.bool (rightF x1.1)] |>.s [(.agg (vF 10 10 ++ vT 37 32))] (vt 75) (right_ok x1.1 h16); iteE h (fun h17 h => have H := H.m 75 true h17; reqE h (fun h18 h => have H := H.t 77 [.bool (sameF x1.1 (Md.setE m 9 (x1.1.e 9)))] |>.s [(.agg (vF 10 10 ++ vT 37 32)), (.agg (vF 0 10 ++ vT 0 9 ++ [(vt 46)] ++ vT 10 22))] (vt 76) (same15_ok x1.1 (Md.setE m 9 (x1.1.e 9)) h18); H.e [] h)) (fun _ h => nomatch h))) (fun _ h => iteE h (fun h16 h => have H := H.c (p := (.iaA 16 1 (.c (.ptr 2 10)) (cT 33), (.ptr 2 20))) (fun _ _ _ => fIaP (j := 10) (k := .i64) (n := c.a) (by kernel_rfl) h16 (by decide)) |>.c (p := (.iaA 16 1 (.c (.ptr 4 10)) (cT 33), (.ptr 4 20))) (fun _ _ _ => fIaP (j := 10) (k := .i64) (n := c.a) (by kernel_rfl) h16 (by decide)); reqE h (fun h17 h => have H := H.t 76 [.bool (rightF x1.1)] |>.s [(.agg (vF 10 10 ++ vT 37 32))] (vt 75) (right_ok x1.1 h17); iteE h (fun h18 h => have H := H.m 75 true h18; reqE h (fun h19 h => have H := H.t 77 [.bool (sameF x1.1 (Md.setE m 10 (x1.1.e 10)))] |>.s [(.agg (vF 10 10 ++ vT 37 32)), (.agg (vF 0 10 ++ vT 0 10 ++ [(vt 47)] ++ vT 11 21))] (vt 76) (same15_ok x1.1 (Md.setE m 10 (x1.1.e 10)) h19); H.e [] h)) (fun _ h => nomatch h))) (fun _ h => iteE h (fun h17 h => have H := H.c (p := (.iaA 16 1 (.c (.ptr 2 10)) (cT 33), (.ptr 2 21))) (fun _ _ _ => fIaP (j := 11) (k := .i64) (n := c.a) (by kernel_rfl) h17 (by decide)) |>.c (p := (.iaA 16 1 (.c (.ptr 4 10)) (cT 33), (.ptr 4 21))) (fun _ _ _ => fIaP (j := 11) (k := .i64) (n := c.a) (by kernel_rfl) h17 (by decide)); reqE h (fun h18 h => have H := H.t 76 [.bool (rightF x1.1)] |>.s [(.agg (vF 10 10 ++ vT 37 32))] (vt 75) (right_ok x1.1 h18); iteE h (fun h19 h => have H := H.m 75 true h19; reqE h (fun h20 h => have H := H.t 77 [.bool (sameF x1.1 (Md.setE m 11 (x1.1.e 11)))] |>.s [(.agg (vF 10 10 ++ vT 37 32)), (.agg (vF 0 10 ++ vT 0 11 ++ [(vt 48)] ++ vT 12 20))] (vt 76) (same15_ok x1.1 (Md.setE m 11 (x1.1.e 11)) h20); H.e [] h)) (fun _ h => nomatch h))) (fun _ h => iteE h (fun h18 h => have H := H.c (p := (.iaA 16 1 (.c (.ptr 2 10)) (cT 33), (.ptr 2 22))) (fun _ _ _ => fIaP (j := 12) (k := .i64) (n := c.a) (by kernel_rfl) h18 (by decide)) |>.c (p := (.iaA 16 1 (.c (.ptr 4 10)) (cT 33), (.ptr 4 22))) (fun _ _ _ => fIaP (j := 12) (k := .i64) (n := c.a) (by kernel_rfl) h18 (by decide)); reqE h (fun h19 h => have H := H.t 76 [.bool (rightF x1.1)] |>.s [(.agg (vF 10 10 ++ vT 37 32))] (vt 75) (right_ok x1.1 h19); iteE h (fun h20 h => have H := H.m 75 true h20; reqE h (fun h21 h => have H := H.t 77 [.bool (sameF x1.1 (Md.setE m 12 (x1.1.e 12)))] |>.s [(.agg (vF 10 10 ++ vT 37 32)), (.agg (vF 0 10 ++ vT 0 12 ++ [(vt 49)] ++ vT 13 19))] (vt 76) (same15_ok x1.1 (Md.setE m 12 (x1.1.e 12)) h21); H.e [] h)) (fun _ h => nomatch h))) (fun _ h => iteE h (fun h19 h => have H := H.c (p := (.iaA 16 1 (.c (.ptr 2 10)) (cT 33), (.ptr 2 23))) (fun _ _ _ => fIaP (j := 13) (k := .i64) (n := c.a) (by kernel_rfl) h19 (by decide)) |>.c (p := (.iaA 16 1 (.c (.ptr 4 10)) (cT 33), (.ptr 4 23))) (fun _ _ _ => fIaP (j := 13) (k := .i64) (n := c.a) (by kernel_rfl) h19 (by decide)); reqE h (fun h20 h => have H := H.t 76 [.bool (rightF x1.1)] |>.s [(.agg (vF 10 10 ++ vT 37 32))] (vt 75) (right_ok x1.1 h20); iteE h (fun h21 h => have H := H.m 75 true h21; reqE h (fun h22 h => have H := H.t 77 [.bool (sameF x1.1 (Md.setE m 13 (x1.1.e 13)))] |>.s [(.agg (vF 10 10 ++ vT 37 32)), (.agg (vF 0 10 ++ vT 0 13 ++ [(vt 50)] ++ vT 14 18))] (vt 76) (same15_ok x1.1 (Md.setE m 13 (x1.1.e 13)) h22); H.e [] h)) (fun _ h => nomatch h))) (fun _ h => iteE h (fun h20 h => have H := H.c (p := (.iaA 16 1 (.c (.ptr 2 10)) (cT 33), (.ptr 2 24))) (fun _ _ _ => fIaP (j := 14) (k := .i64) (n := c.a) (by kernel_rfl) h20 (by decide)) |>.c (p := (.iaA 16 1 (.c (.ptr 4 10)) (cT 33), (.ptr 4 24))) (fun _ _ _ => fIaP (j := 14) (k := .i64) (n := c.a) (by kernel_rfl) h20 (by decide)); reqE h (fun h21 h => have H := H.t 76 [.bool (rightF x1.1)] |>.s [(.agg (vF 10 10 ++ vT 37 32))] (vt 75) (right_ok x1.1 h21); iteE h (fun h22 h => have H := H.m 75 true h22; reqE h (fun h23 h => have H := H.t 77 [.bool (sameF x1.1 (Md.setE m 14 (x1.1.e 14)))] |>.s [(.agg (vF 10 10 ++ vT 37 32)), (.agg (vF 0 10 ++ vT 0 14 ++ [(vt 51)] ++ vT 15 17))] (vt 76) (same15_ok x1.1 (Md.setE m 14 (x1.1.e 14)) h23); H.e [] h)) (fun _ h => nomatch h))) (fun _ h => reqE h (fun h21 h => have H := H.c (p := (.iaA 16 1 (.c (.ptr 2 10)) (cT 33), (.ptr 2 25))) (fun _ _ _ => fIaP (j := 15) (k := .i64) (n := c.a) (by kernel_rfl) h21 (by decide)) |>.c (p := (.iaA 16 1 (.c (.ptr 4 10)) (cT 33), (.ptr 4 25))) (fun _ _ _ => fIaP (j := 15) (k := .i64) (n := c.a) (by kernel_rfl) h21 (by decide)); reqE h (fun h22 h => have H := H.t 76 [.bool (rightF x1.1)] |>.s [(.agg (vF 10 10 ++ vT 37 32))] (vt 75) (right_ok x1.1 h22); iteE h (fun h23 h => have H := H.m 75 true h23; reqE h (fun h24 h => have H := H.t 77 [.bool (sameF x1.1 (Md.setE m 15 (x1.1.e 15)))] |>.s [(.agg (vF 10 10 ++ vT 37 32)), (.agg (vF 0 10 ++ vT 0 15 ++ [(vt 52)] ++ vT 16 16))] (vt 76) (same15_ok x1.1 (Md.setE m 15 (x1.1.e 15)) h24); H.e [] h)) (fun _ h => nomatch h))))))))))))))))))) (fun h5 h => have H := H.m 74 false (decide_eq_false h5); reqE h (fun h6 h => have H := H.t 76 [.bool (rightF x1.1)] |>.s [(.agg (vF 10 10 ++ vT 37 32))] (vt 75) (right_ok x1.1 h6); iteE h (fun h7 h => have H := H.m 75 true h7; reqE h (fun h8 h => have H := H.t 77 [.bool (sameF x1.1 m)] |>.s [(.agg (vF 10 10 ++ vT 37 32)), (.agg (vF 0 10 ++ vT 0 32))] (vt 76) (same15_ok x1.1 m h8); H.e [] h)) (fun _ h => nomatch h)))))) (fun h2 h => have H := H.m 71 true (nF h2); reqE h (fun h3 h => have H := H.t 73 [.bool (sameF x1.1 m)] |>.s [(.agg (vF 10 10 ++ vT 37 32)), (.agg (vF 0 10 ++ vT 0 32))] (vt 72) (same15_ok x1.1 m h3); iteE h (fun h4 h => have H := H.t 74 [.bool (decide (x1.2.v = 0))] |>.r [(.bin .eql (cT 69) (cI 0), (vt 73))] |>.m 72 true h4; H.e [] h) (fun _ h => nomatch h))))))

end Go.Proofs.Hz
open Go Go.Proofs
namespace Go.Proofs.Hz
/-! ### What is taken of a right model -/
theorem right_of {m : Md} (hq : ∀ i, i < 8 → (m.q i).l.length ≤ 1000) (hup : m.k.l.Pairwise (· < ·)) (hn : ∀ x ∈ m.k.l, 0 ≤ x ∧ x ≤ 65535) (hv : m.v.l.length = m.k.l.length) : rightF m = true := by
  simp only [rightF, Bool.and_eq_true, List.all_eq_true, List.mem_range, decide_eq_true_eq, upF_drop]
  exact ⟨hq, ⟨hn, hup⟩, hv⟩
/-- A model of few values and names, one more at most than a small one. -/
structure Few (m : Md) : Prop where
  q : ∀ i, i < 8 → (m.q i).l.length ≤ 100
  k : m.k.l.length ≤ 100
  v : m.v.l.length = m.k.l.length
  up : m.k.l.Pairwise (· < ·)
  name : ∀ x ∈ m.k.l, 0 ≤ x ∧ x ≤ 65535
theorem Small.few {m : Md} (S : Small m) : Few m := ⟨fun i hi => by have := S.q i hi; omega, by have := S.k; omega, S.v, S.up, S.name⟩
theorem Few.right {m : Md} (S : Few m) : rightF m = true := right_of (fun i hi => by have := S.q i hi; omega) S.up S.name S.v
theorem Few.ok {m : Md} (S : Few m) : okM m = true := okM_of (fun i hi => by have := S.q i hi; omega) (by have := S.k; omega) (by have := S.v; have := S.k; omega)
theorem sameF_refl (m : Md) : sameF m m = true := sameF_refl' (fun _ => rfl) rfl rfl (fun _ => rfl) (fun _ => rfl)
theorem setQ_few {m : Md} (S : Small m) {i : Nat} {x : Sl} (hx : x.l.length ≤ 100) : Few (m.setQ i x) := by
  have F := S.few
  refine ⟨fun j hj => ?_, F.k, F.v, F.up, F.name⟩
  show (if j = i then x else m.q j).l.length ≤ 100
  split
  · exact hx
  · exact F.q j hj
theorem setE_few {m : Md} (S : Few m) {i : Nat} {x : Bool} : Few (m.setE i x) := ⟨S.q, S.k, S.v, S.up, S.name⟩
theorem laid_few {m : Md} (S : Small m) {n v : Int} (hn : 0 ≤ n ∧ n ≤ 65535) (hm : n ∉ m.k.l) : ∃ y, laidF m n v = some y ∧ Few y := by
  have hk := S.k
  have hv := S.v
  refine ⟨_, laid_eq S.up (by omega) hv n v, ⟨fun i hi => by have := S.q i hi; show (m.q i).l.length ≤ 100; omega, ?_, ?_, insL_up S.up hm, fun x hx => ?_⟩⟩
  · show (insL m.k.l n).length ≤ 100
    rw [insL_len]; omega
  · show (m.v.l.take (lbF m.k.l n) ++ [v] ++ m.v.l.drop (lbF m.k.l n)).length = (insL m.k.l n).length
    have := lbF_le m.k.l n
    rw [insL_len]; simp; omega
  · have hx' : x ∈ insL m.k.l n := hx
    unfold insL at hx'
    simp only [List.append_assoc, List.mem_append, List.mem_singleton] at hx'
    rcases hx' with h | h | h
    · exact S.name x (List.mem_of_mem_take h)
    · rw [h]; exact hn
    · exact S.name x (List.mem_of_mem_drop h)
theorem cut_few {m : Md} (S : Small m) {i : Nat} (hi : i < m.k.l.length) : ∃ y, cutF m i = some y ∧ Few y := by
  have hk := S.k
  have hv := S.v
  refine ⟨_, cut_eq (by omega) hv hi, ⟨fun j hj => by have := S.q j hj; show (m.q j).l.length ≤ 100; omega, ?_, ?_, cutL_up S.up i, fun x hx => ?_⟩⟩
  · show (cutL m.k.l i).length ≤ 100
    have := cutL_len m.k.l i; omega
  · show (cutL m.v.l i).length = (cutL m.k.l i).length
    rw [cutL_len' _ _ hi, cutL_len' _ _ (by omega)]; omega
  · have hx' : x ∈ cutL m.k.l i := hx
    unfold cutL at hx'
    rcases List.mem_append.1 hx' with h | h
    · exact S.name x (List.mem_of_mem_take h)
    · exact S.name x (List.mem_of_mem_drop h)
/-- What a syscall makes of a model, by its kind. -/
def DoRel (m : Md) (c : Cl) (a : Md) (r : Rs) : Prop :=
  (r.e ≠ 0 ∧ a = m ∧ r.v = 0) ∨ (r.e = 0 ∧ mayF c = true ∧ ((0 ≤ c.no ∧ c.no ≤ 2 ∧ ∃ x, a = m.setQ c.a.toNat x) ∨ (3 ≤ c.no ∧ c.no ≤ 5 ∧ ∃ k v, a = (m.setK k).setV v) ∨ (6 ≤ c.no ∧ c.no ≤ 8 ∧ ∃ b, a = m.setE c.a.toNat b) ∨ (c.no = 9 ∧ a = m)))
theorem laid_set {m y : Md} {n v : Int} (h : laidF m n v = some y) : ∃ k w, y = (m.setK k).setV w := by
  unfold laidF at h
  cases h0 : searchF m.k.l n with
  | none => rw [h0] at h; cases h
  | some s =>
    rw [h0] at h
    simp only [Option.bind_some] at h
    cases h1 : withF m.k.l s.1 0 [n] with
    | none => rw [h1] at h; cases h
    | some k =>
      rw [h1] at h
      simp only [Option.bind_some] at h
      cases h2 : withF m.v.l s.1 0 [v] with
      | none => rw [h2] at h; cases h
      | some w => rw [h2] at h; cases h; exact ⟨_, _, rfl⟩
theorem cut_set {m y : Md} {i : Int} (h : cutF m i = some y) : ∃ k w, y = (m.setK k).setV w := by
  unfold cutF at h
  cases h1 : withF m.k.l i 1 [] with
  | none => rw [h1] at h; cases h
  | some k =>
    rw [h1] at h
    simp only [Option.bind_some] at h
    cases h2 : withF m.v.l i 1 [] with
    | none => rw [h2] at h; cases h
    | some w => rw [h2] at h; cases h; exact ⟨_, _, rfl⟩
theorem do_total {m : Md} (S : Small m) (c : Cl) : ∃ a r, doF m c = some (a, r) ∧ Few a ∧ DoRel m c a r := by
  have F := S.few
  have hk := S.k
  have hv := S.v
  unfold doF DoRel
  by_cases hm : mayF c = true
  rotate_left 1
  · rw [if_neg hm]
    exact ⟨_, _, rfl, F, .inl ⟨by simp, rfl, rfl⟩⟩
  rw [if_pos hm, search_eq S.up (by omega)]
  simp only [Option.bind_some]
  have hmay := (may_iff c).1 hm
  by_cases h0 : c.no = 0
  · have hq := S.q c.a.toNat (by omega)
    rw [if_pos h0, if_pos (by omega)]
    exact ⟨_, _, rfl, setQ_few S (by simp; omega), .inr ⟨rfl, hm, .inl ⟨by omega, by omega, _, rfl⟩⟩⟩
  rw [if_neg h0]
  by_cases h12 : c.no = 1 ∨ c.no = 2
  · rw [if_pos h12]
    have hq := S.q c.a.toNat (by omega)
    cases hl : (m.q c.a.toNat).l with
    | nil =>
      refine ⟨_, _, rfl, F, .inl ⟨?_, rfl, rfl⟩⟩
      show (if c.no = 1 then (6 : Int) else 3) ≠ 0
      split <;> decide
    | cons y t =>
      rw [hl] at hq
      exact ⟨_, _, rfl, setQ_few S (by show t.length ≤ 100; simp at hq; omega), .inr ⟨rfl, hm, .inl ⟨by omega, by omega, _, rfl⟩⟩⟩
  rw [if_neg h12]
  by_cases h3 : c.no = 3
  · rw [if_pos h3]
    by_cases hin : c.a ∈ m.k.l
    · rw [if_pos (by simpa using hin)]
      exact ⟨_, _, rfl, F, .inl ⟨by simp, rfl, rfl⟩⟩
    · rw [if_neg (by simpa using hin)]
      obtain ⟨y, hy, hf⟩ := laid_few (v := c.b) S (n := c.a) (by omega) hin
      obtain ⟨k, w, hkw⟩ := laid_set hy
      rw [hy]
      exact ⟨_, _, rfl, hf, .inr ⟨rfl, hm, .inr (.inl ⟨by omega, by omega, k, w, hkw⟩)⟩⟩
  rw [if_neg h3]
  have hget : c.a ∈ m.k.l → ∃ v, m.v.l[(lbF m.k.l c.a : Int).toNat]? = some v := fun hin => by
    obtain ⟨hlt, _⟩ := (mem_lb S.up).1 hin
    exact ⟨_, List.getElem?_eq_getElem (by omega)⟩
  by_cases h4 : c.no = 4
  · rw [if_pos h4]
    by_cases hin : c.a ∈ m.k.l
    · rw [if_pos (by simpa using hin)]
      obtain ⟨v, hv'⟩ := hget hin
      rw [hv']
      exact ⟨_, _, rfl, F, .inr ⟨rfl, hm, .inr (.inl ⟨by omega, by omega, m.k, m.v, rfl⟩)⟩⟩
    · rw [if_neg (by simpa using hin)]
      exact ⟨_, _, rfl, F, .inl ⟨by simp, rfl, rfl⟩⟩
  rw [if_neg h4]
  by_cases h5 : c.no = 5
  · rw [if_pos h5]
    by_cases hin : c.a ∈ m.k.l
    · rw [if_pos (by simpa using hin)]
      obtain ⟨v, hv'⟩ := hget hin
      obtain ⟨y, hy, hf⟩ := cut_few S ((mem_lb S.up).1 hin).1
      obtain ⟨k, w, hkw⟩ := cut_set hy
      rw [hv', hy]
      exact ⟨_, _, rfl, hf, .inr ⟨rfl, hm, .inr (.inl ⟨by omega, by omega, k, w, hkw⟩)⟩⟩
    · rw [if_neg (by simpa using hin)]
      exact ⟨_, _, rfl, F, .inl ⟨by simp, rfl, rfl⟩⟩
  rw [if_neg h5]
  by_cases h6 : c.no = 6
  · rw [if_pos h6]
    exact ⟨_, _, rfl, setE_few F, .inr ⟨rfl, hm, .inr (.inr (.inl ⟨by omega, by omega, _, rfl⟩))⟩⟩
  rw [if_neg h6]
  by_cases h7 : c.no = 7
  · rw [if_pos h7]
    exact ⟨_, _, rfl, setE_few F, .inr ⟨rfl, hm, .inr (.inr (.inl ⟨by omega, by omega, _, rfl⟩))⟩⟩
  rw [if_neg h7]
  by_cases h8 : c.no = 8
  · rw [if_pos h8]
    have ht : testedF m c.a = some (m.setE c.a.toNat (m.e c.a.toNat && !(m.s c.a.toNat)), if m.e c.a.toNat then 1 else 0) := by unfold testedF; rw [if_pos (by omega)]
    rw [ht]
    exact ⟨_, _, rfl, setE_few F, .inr ⟨rfl, hm, .inr (.inr (.inl ⟨by omega, by omega, _, rfl⟩))⟩⟩
  · rw [if_neg h8]
    exact ⟨_, _, rfl, F, .inr ⟨rfl, hm, .inr (.inr (.inr ⟨by omega, rfl⟩))⟩⟩
theorem parts_law {m : Md} {c : Cl} : f4 m c = some (.bool true) := by
  unfold f4
  by_cases hsm : smallF m = true
  rotate_left 1
  · rw [if_pos (by simpa using hsm)]
  rw [if_neg (by simp [hsm])]
  obtain ⟨a, r, hd, hf, hrel⟩ := do_total (small_of hsm) c
  rw [hd]
  simp only [Option.bind_some]
  have hok := hf.ok
  have hr := hf.right
  have hk : List.length (Md.k a).l ≤ 1000000 := by have := hf.k; omega
  rcases hrel with ⟨he, rfl, hv⟩ | ⟨he, hm, hrel⟩
  · rw [if_neg he, if_pos hok, if_pos (sameF_refl _)]
    simp [hv]
  rw [if_pos he]
  have hmay := (may_iff c).1 hm
  rcases hrel with ⟨h1, h2, x, rfl⟩ | ⟨h1, h2, k, v, rfl⟩ | ⟨h1, h2, b, rfl⟩ | ⟨h1, rfl⟩
  · obtain ⟨j, hj⟩ : ∃ j : Nat, c.a = j := ⟨c.a.toNat, by omega⟩
    have hj' : j = 0 ∨ j = 1 ∨ j = 2 ∨ j = 3 ∨ j = 4 ∨ j = 5 ∨ j = 6 ∨ j = 7 := by omega
    have hs : ∀ i y, i = j → y = ((m.setQ j x).q j) → sameF (m.setQ j x) (m.setQ i ⟨y.l, y.c⟩) = true := fun i y hi hy => by
      subst hi; subst hy
      refine sameF_refl' (fun i => ?_) rfl rfl (fun _ => rfl) (fun _ => rfl)
      simp only [Md.setQ]; split <;> simp
    rw [if_pos h2]
    rw [hj, Int.toNat_natCast] at hok hr hk ⊢
    rcases hj' with rfl | rfl | rfl | rfl | rfl | rfl | rfl | rfl <;> simp [hok, hr, hk] <;> exact hs _ _ rfl rfl
  · rw [if_neg (by omega), if_pos (by omega), if_pos hk, if_pos hr, if_pos hok]
    exact congrArg (fun b => some (AV.bool b)) (sameF_refl' (fun _ => rfl) rfl rfl (fun _ => rfl) (fun _ => rfl))
  · obtain ⟨j, hj⟩ : ∃ j : Nat, c.a = j := ⟨c.a.toNat, by omega⟩
    have hj15 : j = 0 ∨ j = 1 ∨ j = 2 ∨ j = 3 ∨ j = 4 ∨ j = 5 ∨ j = 6 ∨ j = 7 ∨ j = 8 ∨ j = 9 ∨ j = 10 ∨ j = 11 ∨ j = 12 ∨ j = 13 ∨ j = 14 ∨ j = 15 := by omega
    have hs : ∀ i y, i = j → y = ((m.setE j b).e j) → sameF (m.setE j b) (m.setE i y) = true := fun i y hi hy => by
      subst hi; subst hy
      refine sameF_refl' (fun _ => rfl) rfl rfl (fun i => ?_) (fun _ => rfl)
      simp only [Md.setE]; split <;> simp
    rw [if_neg (by omega), if_neg (by omega), if_pos h2]
    rw [hj, Int.toNat_natCast] at hok hr hk ⊢
    rcases hj15 with rfl | rfl | rfl | rfl | rfl | rfl | rfl | rfl | rfl | rfl | rfl | rfl | rfl | rfl | rfl | rfl <;> simp [hok, hr, hk] <;> exact hs _ _ rfl rfl
  · rw [if_neg (by omega), if_neg (by omega), if_neg (by omega), if_pos hk, if_pos hr, if_pos hok, sameF_refl]
theorem parts_ok (m : Md) (c : Cl) : Spec FF 4 [m.av, c.av] (.bool true) := f4_ok m c parts_law
end Go.Proofs.Hz
namespace Go.Proofs.Ytpidaficnfaedaa
open Go.ChangeShapes Go.WideShapes Go.ChangeAt Go.RowKit Go.Proofs.Hz

theorem own : ownKnob Try.prog.godebug = none := by kernel_rfl
theorem laidOut : laidOutB Try.prog = true := by kernel_rfl
theorem u3 : Try.prog.underlying 3 = some (.int .i64) := by kernel_rfl
theorem u4 : Try.prog.underlying 4 = some .bool := by kernel_rfl
theorem u22 : Try.prog.underlying 22 = some (.slice 3) := by kernel_rfl
theorem u23 : Try.prog.underlying 23 = some (.array 8 22) := by kernel_rfl
theorem u24 : Try.prog.underlying 24 = some (.array 16 4) := by kernel_rfl
theorem u46 : Try.prog.underlying 46 = some (.int .u16) := by kernel_rfl
theorem u26 : ∃ fs : Array Field, Try.prog.underlying 26 = some (.struct fs) ∧ fs.toList.map (·.type) = [23, 22, 22, 24, 24] := ⟨_, rfl, by kernel_rfl⟩

theorem row_of {n : Nat} {xs : List AV} (h : SH Try.prog (n + 2) 22 xs) : ∃ x : Sl, xs = [x.av] := by
  unfold SH at h
  rw [u22] at h
  obtain ⟨els, c, rfl, _, he⟩ := h
  obtain ⟨l, rfl, _⟩ := ints_of u3 he
  exact ⟨⟨l, c⟩, rfl⟩
theorem bool_of {n : Nat} {xs : List AV} (h : SH Try.prog (n + 1) 4 xs) : ∃ b, xs = [.bool b] := by
  unfold SH at h
  rw [u4] at h
  exact h
theorem rows8 {n : Nat} : ∀ {parts : List (List AV)}, (∀ p ∈ parts, SH Try.prog (n + 2) 22 p) → ∃ l : List Sl, parts = l.map (fun x => [x.av])
  | [], _ => ⟨[], rfl⟩
  | p :: ps, h => by
    obtain ⟨l, rfl⟩ := rows8 fun q hq => h q (List.mem_cons_of_mem _ hq)
    obtain ⟨x, rfl⟩ := row_of (h p (List.mem_cons_self ..))
    exact ⟨x :: l, rfl⟩
theorem bools16 {n : Nat} : ∀ {parts : List (List AV)}, (∀ p ∈ parts, SH Try.prog (n + 1) 4 p) → ∃ l : List Bool, parts = l.map (fun x => [.bool x])
  | [], _ => ⟨[], rfl⟩
  | p :: ps, h => by
    obtain ⟨l, rfl⟩ := bools16 fun q hq => h q (List.mem_cons_of_mem _ hq)
    obtain ⟨x, rfl⟩ := bool_of (h p (List.mem_cons_self ..))
    exact ⟨x :: l, rfl⟩
theorem arr8 {n : Nat} {xs : List AV} (h : SH Try.prog (n + 3) 23 xs) : ∃ q : Nat → Sl, xs = [(q 0).av, (q 1).av, (q 2).av, (q 3).av, (q 4).av, (q 5).av, (q 6).av, (q 7).av] := by
  unfold SH at h
  rw [u23] at h
  obtain ⟨parts, rfl, hl, hp⟩ := h
  obtain ⟨l, rfl⟩ := rows8 hp
  simp only [List.length_map] at hl
  match l, hl with
  | [a, b, c, d, e, f, g, i], _ => exact ⟨fun j => [a, b, c, d, e, f, g, i].getD j default, rfl⟩
theorem arr16 {n : Nat} {xs : List AV} (h : SH Try.prog (n + 2) 24 xs) : ∃ e : Nat → Bool, xs = [.bool (e 0), .bool (e 1), .bool (e 2), .bool (e 3), .bool (e 4), .bool (e 5), .bool (e 6), .bool (e 7), .bool (e 8), .bool (e 9), .bool (e 10), .bool (e 11), .bool (e 12), .bool (e 13), .bool (e 14), .bool (e 15)] := by
  unfold SH at h
  rw [u24] at h
  obtain ⟨parts, rfl, hl, hp⟩ := h
  obtain ⟨l, rfl⟩ := bools16 hp
  simp only [List.length_map] at hl
  match l, hl with
  | [a0, a1, a2, a3, a4, a5, a6, a7, a8, a9, a10, a11, a12, a13, a14, a15], _ => exact ⟨fun j => [a0, a1, a2, a3, a4, a5, a6, a7, a8, a9, a10, a11, a12, a13, a14, a15].getD j false, rfl⟩
theorem model_of {n : Nat} {xs : List AV} (h : SH Try.prog (n + 4) 26 xs) : ∃ m : Md, xs = m.cells := by
  obtain ⟨fs, hu, hf⟩ := u26
  unfold SH at h
  rw [hu] at h
  obtain ⟨parts, rfl, hl, hp⟩ := h
  have hfs : ∀ i t, [23, 22, 22, 24, 24][i]? = some t → ∃ f : Field, fs[i]? = some f ∧ f.type = t := fun i t ht => by
    rw [← hf, List.getElem?_map, Option.map_eq_some_iff] at ht
    obtain ⟨f, h1, h2⟩ := ht
    exact ⟨f, by rwa [Array.getElem?_toList] at h1, h2⟩
  have h5 : parts.length = 5 := by
    have := congrArg List.length hf
    simp at this
    omega
  match parts, h5 with
  | [p0, p1, p2, p3, p4], _ =>
    have get : ∀ i t p, [23, 22, 22, 24, 24][i]? = some t → [p0, p1, p2, p3, p4][i]? = some p → SH Try.prog (n + 3) t p := fun i t p ht hq => by
      obtain ⟨f, h1, h2⟩ := hfs i t ht
      rw [← h2]; exact hp i f p h1 hq
    obtain ⟨q, rfl⟩ := arr8 (get 0 23 p0 rfl rfl)
    obtain ⟨k, rfl⟩ := row_of (get 1 22 p1 rfl rfl)
    obtain ⟨v, rfl⟩ := row_of (get 2 22 p2 rfl rfl)
    obtain ⟨e, rfl⟩ := arr16 (get 3 24 p3 rfl rfl)
    obtain ⟨s, rfl⟩ := arr16 (get 4 24 p4 rfl rfl)
    exact ⟨⟨q, k, v, e, s⟩, rfl⟩
theorem argV26 (xs : List AV) : argV Try.prog 26 xs = .agg xs := by
  obtain ⟨fs, hu, _⟩ := u26
  unfold argV; rw [hu]
/-- A model, as an argument. -/
theorem arg_model {H : Type} {enc : TypeId × Value → H} {w : World} {v : Value} {d : DataW H} {ps : List MemPlace} {base : Nat} (hval : Value.okWide Try.prog w .any base 26 v) (h : DataW.Trod enc Try.prog w 0 (fun _ => true) true 26 v d ps) :
    ∃ m : Md, R (fun b => b < w.heap.size) w Ids.none Ren.none m.av v := by
  obtain ⟨xs, hS, hR⟩ := arg_abs (n := 6) (by kernel_rfl) hval h
  obtain ⟨m, rfl⟩ := model_of hS
  rw [argV26] at hR
  exact ⟨m, hR⟩


theorem u27 : ∃ fs : Array Field, Try.prog.underlying 28 = some (.struct fs) ∧ fs.toList.map (·.type) = [3, 3, 3] := ⟨_, rfl, by kernel_rfl⟩
theorem u40 : ∃ fs : Array Field, Try.prog.underlying 40 = some (.struct fs) ∧ fs.toList.map (·.type) = [3, 3, 3, 3, 3] := ⟨_, rfl, by kernel_rfl⟩
theorem int_of {n : Nat} {xs : List AV} (h : SH Try.prog (n + 1) 3 xs) : ∃ m, xs = [.int .i64 m] ∧ -9223372036854775808 ≤ m ∧ m ≤ 9223372036854775807 := by
  unfold SH at h
  rw [u3] at h
  obtain ⟨m, rfl, hw⟩ := h
  exact ⟨m, rfl, bounds_i64 hw⟩
theorem parts_of {n t : Nat} {xs : List AV} {fs : Array Field} {ts : List Nat} (hu : Try.prog.underlying t = some (.struct fs)) (hf : fs.toList.map (·.type) = ts) (h : SH Try.prog (n + 1) t xs) :
    ∃ parts : List (List AV), xs = parts.flatten ∧ parts.length = ts.length ∧ ∀ (i : Nat) (u : Nat) (p : List AV), ts[i]? = some u → parts[i]? = some p → SH Try.prog n u p := by
  unfold SH at h
  rw [hu] at h
  obtain ⟨parts, rfl, hl, hp⟩ := h
  refine ⟨parts, rfl, by rw [hl, ← hf]; simp, fun i u p hi hq => ?_⟩
  rw [← hf, List.getElem?_map, Option.map_eq_some_iff] at hi
  obtain ⟨f, h1, h2⟩ := hi
  rw [← h2]
  exact hp i f p (by rwa [Array.getElem?_toList] at h1) hq
theorem call_of {n : Nat} {xs : List AV} (h : SH Try.prog (n + 2) 28 xs) : ∃ c : Cl, xs = [.int .i64 c.no, .int .i64 c.a, .int .i64 c.b] ∧ (-9223372036854775808 ≤ c.b ∧ c.b ≤ 9223372036854775807) := by
  obtain ⟨fs, hu, hf⟩ := u27
  obtain ⟨parts, rfl, hl, hp⟩ := parts_of hu hf h
  match parts, hl with
  | [p0, p1, p2], _ =>
    obtain ⟨a, rfl, _⟩ := int_of (hp 0 3 p0 rfl rfl)
    obtain ⟨b, rfl, _⟩ := int_of (hp 1 3 p1 rfl rfl)
    obtain ⟨c, rfl, hc⟩ := int_of (hp 2 3 p2 rfl rfl)
    exact ⟨⟨a, b, c⟩, rfl, hc⟩
theorem ev_of {n : Nat} {xs : List AV} (h : SH Try.prog (n + 2) 40 xs) : ∃ x : Ev, xs = [.int .i64 x.core, .int .i64 x.kind, .int .i64 x.a, .int .i64 x.b, .int .i64 x.v] := by
  obtain ⟨fs, hu, hf⟩ := u40
  obtain ⟨parts, rfl, hl, hp⟩ := parts_of hu hf h
  match parts, hl with
  | [p0, p1, p2, p3, p4], _ =>
    obtain ⟨a, rfl, _⟩ := int_of (hp 0 3 p0 rfl rfl)
    obtain ⟨b, rfl, _⟩ := int_of (hp 1 3 p1 rfl rfl)
    obtain ⟨c, rfl, _⟩ := int_of (hp 2 3 p2 rfl rfl)
    obtain ⟨d, rfl, _⟩ := int_of (hp 3 3 p3 rfl rfl)
    obtain ⟨e, rfl, _⟩ := int_of (hp 4 3 p4 rfl rfl)
    exact ⟨⟨a, b, c, d, e⟩, rfl⟩
theorem arg_call {H : Type} {enc : TypeId × Value → H} {w : World} {v : Value} {d : DataW H} {ps : List MemPlace} {base : Nat} (hval : Value.okWide Try.prog w .any base 28 v) (h : DataW.Trod enc Try.prog w 0 (fun _ => true) true 28 v d ps) :
    ∃ c : Cl, R (fun b => b < w.heap.size) w Ids.none Ren.none c.av v ∧ (-9223372036854775808 ≤ c.b ∧ c.b ≤ 9223372036854775807) := by
  obtain ⟨xs, hS, hR⟩ := arg_abs (n := 4) (by kernel_rfl) hval h
  obtain ⟨c, rfl, hc⟩ := call_of hS
  obtain ⟨fs, hu, _⟩ := u27
  unfold argV at hR
  rw [hu] at hR
  exact ⟨c, hR, hc⟩
theorem arg_ev {H : Type} {enc : TypeId × Value → H} {w : World} {v : Value} {d : DataW H} {ps : List MemPlace} {base : Nat} (hval : Value.okWide Try.prog w .any base 40 v) (h : DataW.Trod enc Try.prog w 0 (fun _ => true) true 40 v d ps) :
    ∃ x : Ev, R (fun b => b < w.heap.size) w Ids.none Ren.none x.av v := by
  obtain ⟨xs, hS, hR⟩ := arg_abs (n := 4) (by kernel_rfl) hval h
  obtain ⟨x, rfl⟩ := ev_of hS
  obtain ⟨fs, hu, _⟩ := u40
  unfold argV at hR
  rw [hu] at hR
  exact ⟨x, hR⟩
/-- A model of nothing, as a value. -/
def nilMd : Value := .agg #[.slice none 0 0, .slice none 0 0, .slice none 0 0, .slice none 0 0, .slice none 0 0, .slice none 0 0, .slice none 0 0, .slice none 0 0, .slice none 0 0, .slice none 0 0,
  .bool false, .bool false, .bool false, .bool false, .bool false, .bool false, .bool false, .bool false, .bool false, .bool false, .bool false, .bool false, .bool false, .bool false, .bool false, .bool false,
  .bool false, .bool false, .bool false, .bool false, .bool false, .bool false, .bool false, .bool false, .bool false, .bool false, .bool false, .bool false, .bool false, .bool false, .bool false, .bool false]
end Go.Proofs.Ytpidaficnfaedaa
namespace Go.Proofs.Ytpidaficnfaedaa
open Go.ChangeShapes Go.WideShapes Go.ChangeAt Go.RowKit Go.Proofs.Hz
set_option maxRecDepth 100000 in
theorem parts_lifted (os : Os) (started : os.Started) (H : Type) (enc : TypeId × Value → H) :
    ReturnsInHanded {} Try.checked os 4 .any (Rows.modelPartsSpec.pre6 enc Try.prog Try.f4 Rows.modelPartsRow.domain false) (Rows.modelPartsSpec.post enc Try.prog Try.f4 false true false false) := by
  refine returnsInHanded_of_change (C := Try.checked) own started (by kernel_rfl) Try.func4
    (ChangeSpec.witness6 (enc := enc) (C := Try.checked) false ⟨#[], #[nilMd, .agg #[.int .i64 0, .int .i64 0, .int .i64 0]], []⟩ 8 (by kernel_rfl) (by kernel_rfl) (by kernel_rfl) (by kernel_rfl)) ?_
  intro W base args ds gs before hval0 hW hcnd _
  have hval : ∀ (j : Nat) t v, Try.f4.params[j]? = some t → args[j]? = some v → Value.okWide Try.prog W .any base t v := hval0
  have hW' := hW
  obtain ⟨p, q, hA0, hV, rfl, hfz, hnd⟩ := hW
  have hA : DataW.TrodAll enc Try.prog W 0 (fun _ => true) true Try.f4.params.toList args.toList ds p := hA0
  have hA1 := hA
  rw [Try.params4] at hA hval
  obtain ⟨v0, v1, d0, d1, p0, p1, rfl, rfl, rfl, h0, h1⟩ := trodAll_two hA
  obtain ⟨rfl, rfl⟩ := trodVars_none hV
  obtain ⟨m, hm⟩ := arg_model (hval 0 26 v0 rfl rfl) h0
  obtain ⟨c, hc, _⟩ := arg_call (hval 1 28 v1 rfl rfl) h1
  simp only [List.append_nil] at hW'
  refine (law_calls (pu := puN) (F := FF) (fun f af h => h) (parts_ok m c) (RL.cons hm (RL.cons hc RL.nil))).mono fun e W' ⟨he, hw⟩ => ?_
  subst he
  exact ⟨_, rfl, law_post (P := Try.prog) laidOut rfl hW' (by simpa using hA1) rfl (by kernel_rfl) rfl u4 hw⟩

theorem parts_holds : Rows.ModelPartsSaid :=
  OpenClaim.holds_of_wide 4 Try.f4 rfl rfl rfl rfl rfl rfl rfl ⟨rfl, rfl, rfl, rfl, rfl⟩ rfl rfl rfl rfl rfl (by kernel_rfl) Try.func4 (by kernel_rfl)
    (of_decide_eq_true (by kernel_rfl)) (by unfold Func.isWrapper; first | (rw [if_pos (by decide +kernel)]; kernel_rfl) | (rw [if_neg (by decide +kernel)]; exact ⟨rfl, rfl⟩))
    (fun os started H enc _ => parts_lifted os started H enc)
end Go.Proofs.Ytpidaficnfaedaa
