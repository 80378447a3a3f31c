/-
  Chapter 14: the document's example, step by step: runs (written by a program of our own: wip/tools).
  Conditions: none.
-/
import Derived.Test.YtoonekkcjcjgmaaGreatSe
open Go Go.Proofs
namespace Go.Proofs.Hz
def qal0 : Option AV :=
  some SK7
def qal0W : List AV := [SK2, (.int .i64 23), (.int .i64 0), (.int .i64 0), (.int .i64 0)]
def qal0V (σ : Nat → Nat) : Val := (valL ([]) ([]) [] σ 0)
def qal0X (_σ : Nat → Nat) : List AV := [SK2, (.int .i64 23), (.int .i64 0), (.int .i64 0), (.int .i64 0)]
def qal0Y (_σ : Nat → Nat) : List Blk := []
theorem qal0E (σ : Nat → Nat) : qal0W.map (gm (qal0V σ)) = qal0X σ := by kernel_rfl
theorem qal0G (σ : Nat → Nat) : ([] : List Blk).map (gB (qal0V σ)) = qal0Y σ := by kernel_rfl
theorem qal0_ok {r0 : AV} (h : qal0 = some r0) : Spec FF 53 [SK2, (.int .i64 23), (.int .i64 0), (.int .i64 0), (.int .i64 0)] r0 := by
  unfold qal0 at h
  have hσ : ∀ i j : Nat, (fun i : Nat => i) i = (fun i : Nat => i) j → i = j := fun _ _ e => e
  exact spec_begin (ρ := qal0V (fun i => i)) (xs := qal0W) (by kernel_rfl) rfl rfl (by kernel_rfl) (fun z0 S => have H := Tok.start hσ S 0 0 0 0 ([]) ([]) [] (.n) .n (qal0E _) (qal0G _); have H := H.s [SK2, (.int .i64 0), (.int .i64 23), (.int .i64 0), (.int .i64 0), (.int .i64 0)] SK3 (show Spec FF 37 [SK2, (.int .i64 0), (.int .i64 23), (.int .i64 0), (.int .i64 0), (.int .i64 0)] SK3 from ⟨200, by kernel_rfl⟩) |>.s [SK3, (.int .i64 0)] SK4 (st0) |>.s [SK4, (.int .i64 0)] SK5 (st1) |>.s [SK5, (.int .i64 0)] SK6 (st2) |>.s [SK6, (.int .i64 0)] SK7 (st3) |>.s [SK7, (.int .i64 0)] SK7 (st4); H.e [] h)

theorem al0 : Spec FF 53 [SK2, .int .i64 23, .int .i64 0, .int .i64 0, .int .i64 0] SK7 := qal0_ok rfl
def qal1 : Option AV :=
  some SK30
def qal1W : List AV := [SK7, (.int .i64 29), (.int .i64 2), (.int .i64 5), (.int .i64 0)]
def qal1V (σ : Nat → Nat) : Val := (valL ([]) ([]) [] σ 0)
def qal1X (_σ : Nat → Nat) : List AV := [SK7, (.int .i64 29), (.int .i64 2), (.int .i64 5), (.int .i64 0)]
def qal1Y (_σ : Nat → Nat) : List Blk := []
theorem qal1E (σ : Nat → Nat) : qal1W.map (gm (qal1V σ)) = qal1X σ := by kernel_rfl
theorem qal1G (σ : Nat → Nat) : ([] : List Blk).map (gB (qal1V σ)) = qal1Y σ := by kernel_rfl
theorem qal1_ok {r0 : AV} (h : qal1 = some r0) : Spec FF 53 [SK7, (.int .i64 29), (.int .i64 2), (.int .i64 5), (.int .i64 0)] r0 := by
  unfold qal1 at h
  have hσ : ∀ i j : Nat, (fun i : Nat => i) i = (fun i : Nat => i) j → i = j := fun _ _ e => e
  exact spec_begin (ρ := qal1V (fun i => i)) (xs := qal1W) (by kernel_rfl) rfl rfl (by kernel_rfl) (fun z0 S => have H := Tok.start hσ S 0 0 0 0 ([]) ([]) [] (.n) .n (qal1E _) (qal1G _); have H := H.s [SK7, (.int .i64 0), (.int .i64 29), (.int .i64 2), (.int .i64 5), (.int .i64 0)] SK8 (show Spec FF 37 [SK7, (.int .i64 0), (.int .i64 29), (.int .i64 2), (.int .i64 5), (.int .i64 0)] SK8 from ⟨200, by kernel_rfl⟩) |>.s [SK8, (.int .i64 0)] SK9 (st5) |>.s [SK9, (.int .i64 0)] SK10 (st6) |>.s [SK10, (.int .i64 0)] SK11 (st7) |>.s [SK11, (.int .i64 0)] SK12 (st8) |>.s [SK12, (.int .i64 0)] SK13 (st9) |>.s [SK13, (.int .i64 0)] SK14 (st10) |>.s [SK14, (.int .i64 0)] SK15 (st11) |>.s [SK15, (.int .i64 0)] SK16 (st12) |>.s [SK16, (.int .i64 0)] SK17 (st13) |>.s [SK17, (.int .i64 0)] SK18 (st14) |>.s [SK18, (.int .i64 0)] SK19 (st15) |>.s [SK19, (.int .i64 0)] SK20 (st16) |>.s [SK20, (.int .i64 0)] SK21 (st17) |>.s [SK21, (.int .i64 0)] SK22 (st18) |>.s [SK22, (.int .i64 0)] SK23 (st19) |>.s [SK23, (.int .i64 0)] SK24 (st20) |>.s [SK24, (.int .i64 0)] SK25 (st21) |>.s [SK25, (.int .i64 0)] SK26 (st22) |>.s [SK26, (.int .i64 0)] SK27 (st23) |>.s [SK27, (.int .i64 0)] SK28 (st24) |>.s [SK28, (.int .i64 0)] SK29 (st25) |>.s [SK29, (.int .i64 0)] SK30 (st26) |>.s [SK30, (.int .i64 0)] SK30 (st27); H.e [] h)

theorem al1 : Spec FF 53 [SK7, .int .i64 29, .int .i64 2, .int .i64 5, .int .i64 0] SK30 := qal1_ok rfl
def qal2 : Option AV :=
  some SK61
def qal2W : List AV := [SK30, (.int .i64 28), (.int .i64 2), (.int .i64 77), (.int .i64 0)]
def qal2V (σ : Nat → Nat) : Val := (valL ([]) ([]) [] σ 0)
def qal2X (_σ : Nat → Nat) : List AV := [SK30, (.int .i64 28), (.int .i64 2), (.int .i64 77), (.int .i64 0)]
def qal2Y (_σ : Nat → Nat) : List Blk := []
theorem qal2E (σ : Nat → Nat) : qal2W.map (gm (qal2V σ)) = qal2X σ := by kernel_rfl
theorem qal2G (σ : Nat → Nat) : ([] : List Blk).map (gB (qal2V σ)) = qal2Y σ := by kernel_rfl
theorem qal2_ok {r0 : AV} (h : qal2 = some r0) : Spec FF 53 [SK30, (.int .i64 28), (.int .i64 2), (.int .i64 77), (.int .i64 0)] r0 := by
  unfold qal2 at h
  have hσ : ∀ i j : Nat, (fun i : Nat => i) i = (fun i : Nat => i) j → i = j := fun _ _ e => e
  exact spec_begin (ρ := qal2V (fun i => i)) (xs := qal2W) (by kernel_rfl) rfl rfl (by kernel_rfl) (fun z0 S => have H := Tok.start hσ S 0 0 0 0 ([]) ([]) [] (.n) .n (qal2E _) (qal2G _); have H := H.s [SK30, (.int .i64 0), (.int .i64 28), (.int .i64 2), (.int .i64 77), (.int .i64 0)] SK31 (show Spec FF 37 [SK30, (.int .i64 0), (.int .i64 28), (.int .i64 2), (.int .i64 77), (.int .i64 0)] SK31 from ⟨200, by kernel_rfl⟩) |>.s [SK31, (.int .i64 0)] SK32 (st28) |>.s [SK32, (.int .i64 0)] SK33 (st29) |>.s [SK33, (.int .i64 0)] SK34 (st30) |>.s [SK34, (.int .i64 0)] SK35 (st31) |>.s [SK35, (.int .i64 0)] SK36 (st32) |>.s [SK36, (.int .i64 0)] SK37 (st33) |>.s [SK37, (.int .i64 0)] SK38 (st34) |>.s [SK38, (.int .i64 0)] SK39 (st35) |>.s [SK39, (.int .i64 0)] SK40 (st36) |>.s [SK40, (.int .i64 0)] SK41 (st37) |>.s [SK41, (.int .i64 0)] SK42 (st38) |>.s [SK42, (.int .i64 0)] SK43 (st39) |>.s [SK43, (.int .i64 0)] SK44 (st40) |>.s [SK44, (.int .i64 0)] SK45 (st41) |>.s [SK45, (.int .i64 0)] SK46 (st42) |>.s [SK46, (.int .i64 0)] SK47 (st43) |>.s [SK47, (.int .i64 0)] SK48 (st44) |>.s [SK48, (.int .i64 0)] SK49 (st45) |>.s [SK49, (.int .i64 0)] SK50 (st46) |>.s [SK50, (.int .i64 0)] SK51 (st47) |>.s [SK51, (.int .i64 0)] SK52 (st48) |>.s [SK52, (.int .i64 0)] SK53 (st49) |>.s [SK53, (.int .i64 0)] SK54 (st50) |>.s [SK54, (.int .i64 0)] SK55 (st51) |>.s [SK55, (.int .i64 0)] SK56 (st52) |>.s [SK56, (.int .i64 0)] SK57 (st53) |>.s [SK57, (.int .i64 0)] SK58 (st54) |>.s [SK58, (.int .i64 0)] SK59 (st55) |>.s [SK59, (.int .i64 0)] SK60 (st56) |>.s [SK60, (.int .i64 0)] SK61 (st57) |>.s [SK61, (.int .i64 0)] SK61 (st58); H.e [] h)

theorem al2 : Spec FF 53 [SK30, .int .i64 28, .int .i64 2, .int .i64 77, .int .i64 0] SK61 := qal2_ok rfl
def qal3 : Option AV :=
  some SK66
def qal3W : List AV := [SK61, (.int .i64 23), (.int .i64 0), (.int .i64 0), (.int .i64 0)]
def qal3V (σ : Nat → Nat) : Val := (valL ([]) ([]) [] σ 0)
def qal3X (_σ : Nat → Nat) : List AV := [SK61, (.int .i64 23), (.int .i64 0), (.int .i64 0), (.int .i64 0)]
def qal3Y (_σ : Nat → Nat) : List Blk := []
theorem qal3E (σ : Nat → Nat) : qal3W.map (gm (qal3V σ)) = qal3X σ := by kernel_rfl
theorem qal3G (σ : Nat → Nat) : ([] : List Blk).map (gB (qal3V σ)) = qal3Y σ := by kernel_rfl
theorem qal3_ok {r0 : AV} (h : qal3 = some r0) : Spec FF 53 [SK61, (.int .i64 23), (.int .i64 0), (.int .i64 0), (.int .i64 0)] r0 := by
  unfold qal3 at h
  have hσ : ∀ i j : Nat, (fun i : Nat => i) i = (fun i : Nat => i) j → i = j := fun _ _ e => e
  exact spec_begin (ρ := qal3V (fun i => i)) (xs := qal3W) (by kernel_rfl) rfl rfl (by kernel_rfl) (fun z0 S => have H := Tok.start hσ S 0 0 0 0 ([]) ([]) [] (.n) .n (qal3E _) (qal3G _); have H := H.s [SK61, (.int .i64 0), (.int .i64 23), (.int .i64 0), (.int .i64 0), (.int .i64 0)] SK62 (show Spec FF 37 [SK61, (.int .i64 0), (.int .i64 23), (.int .i64 0), (.int .i64 0), (.int .i64 0)] SK62 from ⟨200, by kernel_rfl⟩) |>.s [SK62, (.int .i64 0)] SK63 (st59) |>.s [SK63, (.int .i64 0)] SK64 (st60) |>.s [SK64, (.int .i64 0)] SK65 (st61) |>.s [SK65, (.int .i64 0)] SK66 (st62) |>.s [SK66, (.int .i64 0)] SK66 (st63); H.e [] h)

theorem al3 : Spec FF 53 [SK61, .int .i64 23, .int .i64 0, .int .i64 0, .int .i64 0] SK66 := qal3_ok rfl
def qal4 : Option AV :=
  some SK83
def qal4W : List AV := [SK66, (.int .i64 29), (.int .i64 2), (.int .i64 5), (.int .i64 0)]
def qal4V (σ : Nat → Nat) : Val := (valL ([]) ([]) [] σ 0)
def qal4X (_σ : Nat → Nat) : List AV := [SK66, (.int .i64 29), (.int .i64 2), (.int .i64 5), (.int .i64 0)]
def qal4Y (_σ : Nat → Nat) : List Blk := []
theorem qal4E (σ : Nat → Nat) : qal4W.map (gm (qal4V σ)) = qal4X σ := by kernel_rfl
theorem qal4G (σ : Nat → Nat) : ([] : List Blk).map (gB (qal4V σ)) = qal4Y σ := by kernel_rfl
theorem qal4_ok {r0 : AV} (h : qal4 = some r0) : Spec FF 53 [SK66, (.int .i64 29), (.int .i64 2), (.int .i64 5), (.int .i64 0)] r0 := by
  unfold qal4 at h
  have hσ : ∀ i j : Nat, (fun i : Nat => i) i = (fun i : Nat => i) j → i = j := fun _ _ e => e
  exact spec_begin (ρ := qal4V (fun i => i)) (xs := qal4W) (by kernel_rfl) rfl rfl (by kernel_rfl) (fun z0 S => have H := Tok.start hσ S 0 0 0 0 ([]) ([]) [] (.n) .n (qal4E _) (qal4G _); have H := H.s [SK66, (.int .i64 0), (.int .i64 29), (.int .i64 2), (.int .i64 5), (.int .i64 0)] SK67 (show Spec FF 37 [SK66, (.int .i64 0), (.int .i64 29), (.int .i64 2), (.int .i64 5), (.int .i64 0)] SK67 from ⟨200, by kernel_rfl⟩) |>.s [SK67, (.int .i64 0)] SK68 (st64) |>.s [SK68, (.int .i64 0)] SK69 (st65) |>.s [SK69, (.int .i64 0)] SK70 (st66) |>.s [SK70, (.int .i64 0)] SK71 (st67) |>.s [SK71, (.int .i64 0)] SK72 (st68) |>.s [SK72, (.int .i64 0)] SK73 (st69) |>.s [SK73, (.int .i64 0)] SK74 (st70) |>.s [SK74, (.int .i64 0)] SK75 (st71) |>.s [SK75, (.int .i64 0)] SK76 (st72) |>.s [SK76, (.int .i64 0)] SK77 (st73) |>.s [SK77, (.int .i64 0)] SK78 (st74) |>.s [SK78, (.int .i64 0)] SK79 (st75) |>.s [SK79, (.int .i64 0)] SK80 (st76) |>.s [SK80, (.int .i64 0)] SK81 (st77) |>.s [SK81, (.int .i64 0)] SK82 (st78) |>.s [SK82, (.int .i64 0)] SK83 (st79) |>.s [SK83, (.int .i64 0)] SK83 (st80); H.e [] h)

theorem al4 : Spec FF 53 [SK66, .int .i64 29, .int .i64 2, .int .i64 5, .int .i64 0] SK83 := qal4_ok rfl
def qshown : Option AV :=
  some (.bool true)
def qshownW : List AV := []
def qshownV (σ : Nat → Nat) : Val := (valL ([]) ([]) [] σ 0)
def qshownX (_σ : Nat → Nat) : List AV := []
def qshownY (_σ : Nat → Nat) : List Blk := []
theorem qshownE (σ : Nat → Nat) : qshownW.map (gm (qshownV σ)) = qshownX σ := by kernel_rfl
theorem qshownG (σ : Nat → Nat) : ([] : List Blk).map (gB (qshownV σ)) = qshownY σ := by kernel_rfl
theorem qshown_ok {r0 : AV} (h : qshown = some r0) : Spec FF 38 [] r0 := by
  unfold qshown at h
  have hσ : ∀ i j : Nat, (fun i : Nat => i) i = (fun i : Nat => i) j → i = j := fun _ _ e => e
  exact spec_begin (ρ := qshownV (fun i => i)) (xs := qshownW) (by kernel_rfl) rfl rfl (by kernel_rfl) (fun z0 S => have H := Tok.start hσ S 0 0 0 0 ([]) ([]) [] (.n) .n (qshownE _) (qshownG _); have H := H.s [(.int .i64 1), (.int .i64 9)] SK0 (show Spec FF 28 [(.int .i64 1), (.int .i64 9)] SK0 from ⟨200, by kernel_rfl⟩) |>.s [SK0, (.int .i64 2)] (.tup [SK1, (.int .i64 0)]) (show Spec FF 52 [SK0, (.int .i64 2)] (.tup [SK1, (.int .i64 0)]) from ⟨200, by kernel_rfl⟩) |>.s [SK1, (.int .i64 5), (.int .i64 0)] (.tup [SK2, (.int .i64 0)]) (show Spec FF 17 [SK1, (.int .i64 5), (.int .i64 0)] (.tup [SK2, (.int .i64 0)]) from ⟨200, by kernel_rfl⟩) |>.s [SK2, (.int .i64 23), (.int .i64 0), (.int .i64 0), (.int .i64 0)] SK7 (al0) |>.s [SK7, (.int .i64 29), (.int .i64 2), (.int .i64 5), (.int .i64 0)] SK30 (al1) |>.s [SK30, (.int .i64 28), (.int .i64 2), (.int .i64 77), (.int .i64 0)] SK61 (al2) |>.s [SK61, (.int .i64 23), (.int .i64 0), (.int .i64 0), (.int .i64 0)] SK66 (al3) |>.s [SK66, (.int .i64 29), (.int .i64 2), (.int .i64 5), (.int .i64 0)] SK83 (al4) |>.s [SK30, (.int .i64 2)] (.im [[(.int .i64 5)]] false) (show Spec FF 39 [SK30, (.int .i64 2)] (.im [[(.int .i64 5)]] false) from ⟨200, by kernel_rfl⟩) |>.s [(.im [[(.int .i64 5)]] false), (.im [[(.int .i64 5)]] true)] (.bool true) (show Spec FF 21 [(.im [[(.int .i64 5)]] false), (.im [[(.int .i64 5)]] true)] (.bool true) from ⟨200, by kernel_rfl⟩) |>.s [SK61, (.int .i64 2)] (.im [] true) (show Spec FF 39 [SK61, (.int .i64 2)] (.im [] true) from ⟨200, by kernel_rfl⟩) |>.s [SK83] (.bool true) (show Spec FF 41 [SK83] (.bool true) from ⟨200, by kernel_rfl⟩) |>.s [(.int .i64 29)] (.bool true) (show Spec FF 43 [(.int .i64 29)] (.bool true) from ⟨200, by kernel_rfl⟩) |>.s [(.int .i64 0)] (.bool false) (show Spec FF 43 [(.int .i64 0)] (.bool false) from ⟨200, by kernel_rfl⟩); H.e [] h)

theorem shown_ok : Spec FF 38 [] (.bool true) := qshown_ok rfl
end Go.Proofs.Hz
