/-
  No cell of these rows narrows 'for every input' (looked for: loops, veiled, ifaces, maps, wideKeys, modest, calm, conditions, laid).
  DERIVED. THE GIVEN ROWS OF THIS SEAT. 7 by the template 'for every input the law returns true; each argument reads behind the call as it read before'; 0 by the template 'total and deterministic' (their statements: YtpidaficnfaedaaTotals.lean).
  GIVEN WITH THE SEED: the statements are not yours to turn. If you find one false, say at which input.
  Laid BY PROGRAM, IN A SANDBOX (cutbox-rows.mjs): the forced cells as the released guide's own fill.sh prints them over the translation 819415c6226e37ee… (all of the seat's roots in one cut). By AI agents, Wed Nov 11 2026. No macro, syntax, notation, axiom, sorry.
-/
import Derived.Test.YtpidaficnfaedaaChecked
import GoSem.Claim
import GoSem.ClaimJoined
import GoSem.ClaimMapViews
import Derived.JoinedTies
import Derived.KernelRfl
namespace Go.Proofs.Ytpidaficnfaedaa
/- THE CELL 'sum', in the pinned program and in every row, IS THE sha256 OF THE DUMP (.gsa) THAT YtpidaficnfaedaaProg.lean LOADS. Nothing in Lean hashes anything: it is a label: what it is worth is what the hold of that sum in a sandbox is worth. -/
noncomputable def Try.pinned : Pinned := { name := "ytpidaficnfaedaa", sum := "819415c6226e37ee8f9b34789879d8d0a5480c0ee6f50d02ca132ed9e4258d91", checked := Try.checked }
namespace Rows
def none {H : Type} : Left H := { results := [], args := [] }

/-- 'hazellaw17.ModelAgrees': WHATEVER THE INPUT: true; the input reads as it did. -/
def modelAgreesSpec : ChangeSpec := { name := "modelAgrees", fn := fun _ => fun
  | [d1, d2] => { results := [.lit (.bool true)], args := [d1, d2] }
  | _ => none }
def modelAgreesRow : OpenClaim := { program := "ytpidaficnfaedaa", sum := "819415c6226e37ee8f9b34789879d8d0a5480c0ee6f50d02ca132ed9e4258d91", func := "hazel/hazellaw17.ModelAgrees", spec := "modelAgrees", unfollowed := true, recurses := true, apart := false }
def ModelAgreesSaid : Prop := modelAgreesRow.holds Try.pinned (OpenSpec.ofChange modelAgreesSpec)

/-- ITS FALSE NEIGHBOUR: 'it returns false'. Refute it at one input. -/
def modelAgreesWrong : ChangeSpec := { name := "modelAgrees", fn := fun _ => fun
  | [d1, d2] => { results := [.lit (.bool false)], args := [d1, d2] }
  | _ => none }
def ModelAgreesWrongFalsely : Prop := modelAgreesRow.holds Try.pinned (OpenSpec.ofChange modelAgreesWrong)

/-- 'hazellaw17.ModelParts': WHATEVER THE INPUT: true; the input reads as it did. -/
def modelPartsSpec : ChangeSpec := { name := "modelParts", fn := fun _ => fun
  | [d1, d2] => { results := [.lit (.bool true)], args := [d1, d2] }
  | _ => none }
def modelPartsRow : OpenClaim := { program := "ytpidaficnfaedaa", sum := "819415c6226e37ee8f9b34789879d8d0a5480c0ee6f50d02ca132ed9e4258d91", func := "hazel/hazellaw17.ModelParts", spec := "modelParts", unfollowed := true, recurses := true, apart := false }
def ModelPartsSaid : Prop := modelPartsRow.holds Try.pinned (OpenSpec.ofChange modelPartsSpec)

/-- ITS FALSE NEIGHBOUR: 'it returns false'. Refute it at one input. -/
def modelPartsWrong : ChangeSpec := { name := "modelParts", fn := fun _ => fun
  | [d1, d2] => { results := [.lit (.bool false)], args := [d1, d2] }
  | _ => none }
def ModelPartsWrongFalsely : Prop := modelPartsRow.holds Try.pinned (OpenSpec.ofChange modelPartsWrong)

/-- 'hazellaw17.ModelTwice': WHATEVER THE INPUT: true; the input reads as it did. -/
def modelTwiceSpec : ChangeSpec := { name := "modelTwice", fn := fun _ => fun
  | [d1, d2, d3] => { results := [.lit (.bool true)], args := [d1, d2, d3] }
  | _ => none }
def modelTwiceRow : OpenClaim := { program := "ytpidaficnfaedaa", sum := "819415c6226e37ee8f9b34789879d8d0a5480c0ee6f50d02ca132ed9e4258d91", func := "hazel/hazellaw17.ModelTwice", spec := "modelTwice", unfollowed := true, recurses := true, apart := false }
def ModelTwiceSaid : Prop := modelTwiceRow.holds Try.pinned (OpenSpec.ofChange modelTwiceSpec)

/-- ITS FALSE NEIGHBOUR: 'it returns false'. Refute it at one input. -/
def modelTwiceWrong : ChangeSpec := { name := "modelTwice", fn := fun _ => fun
  | [d1, d2, d3] => { results := [.lit (.bool false)], args := [d1, d2, d3] }
  | _ => none }
def ModelTwiceWrongFalsely : Prop := modelTwiceRow.holds Try.pinned (OpenSpec.ofChange modelTwiceWrong)

/-- 'hazellaw17.ModelApart': WHATEVER THE INPUT: true; the input reads as it did. -/
def modelApartSpec : ChangeSpec := { name := "modelApart", fn := fun _ => fun
  | [d1, d2, d3] => { results := [.lit (.bool true)], args := [d1, d2, d3] }
  | _ => none }
def modelApartRow : OpenClaim := { program := "ytpidaficnfaedaa", sum := "819415c6226e37ee8f9b34789879d8d0a5480c0ee6f50d02ca132ed9e4258d91", func := "hazel/hazellaw17.ModelApart", spec := "modelApart", unfollowed := true, recurses := true, apart := false }
def ModelApartSaid : Prop := modelApartRow.holds Try.pinned (OpenSpec.ofChange modelApartSpec)

/-- ITS FALSE NEIGHBOUR: 'it returns false'. Refute it at one input. -/
def modelApartWrong : ChangeSpec := { name := "modelApart", fn := fun _ => fun
  | [d1, d2, d3] => { results := [.lit (.bool false)], args := [d1, d2, d3] }
  | _ => none }
def ModelApartWrongFalsely : Prop := modelApartRow.holds Try.pinned (OpenSpec.ofChange modelApartWrong)

/-- 'hazellaw17.ModelQueues': WHATEVER THE INPUT: true; the input reads as it did. -/
def modelQueuesSpec : ChangeSpec := { name := "modelQueues", fn := fun _ => fun
  | [d1, d2, d3] => { results := [.lit (.bool true)], args := [d1, d2, d3] }
  | _ => none }
def modelQueuesRow : OpenClaim := { program := "ytpidaficnfaedaa", sum := "819415c6226e37ee8f9b34789879d8d0a5480c0ee6f50d02ca132ed9e4258d91", func := "hazel/hazellaw17.ModelQueues", spec := "modelQueues", unfollowed := true, recurses := true, apart := false }
def ModelQueuesSaid : Prop := modelQueuesRow.holds Try.pinned (OpenSpec.ofChange modelQueuesSpec)

/-- ITS FALSE NEIGHBOUR: 'it returns false'. Refute it at one input. -/
def modelQueuesWrong : ChangeSpec := { name := "modelQueues", fn := fun _ => fun
  | [d1, d2, d3] => { results := [.lit (.bool false)], args := [d1, d2, d3] }
  | _ => none }
def ModelQueuesWrongFalsely : Prop := modelQueuesRow.holds Try.pinned (OpenSpec.ofChange modelQueuesWrong)

/-- 'hazellaw17.ModelTakes': WHATEVER THE INPUT: true; the input reads as it did. -/
def modelTakesSpec : ChangeSpec := { name := "modelTakes", fn := fun _ => fun
  | [d1, d2] => { results := [.lit (.bool true)], args := [d1, d2] }
  | _ => none }
def modelTakesRow : OpenClaim := { program := "ytpidaficnfaedaa", sum := "819415c6226e37ee8f9b34789879d8d0a5480c0ee6f50d02ca132ed9e4258d91", func := "hazel/hazellaw17.ModelTakes", spec := "modelTakes", unfollowed := true, recurses := true, apart := false }
def ModelTakesSaid : Prop := modelTakesRow.holds Try.pinned (OpenSpec.ofChange modelTakesSpec)

/-- ITS FALSE NEIGHBOUR: 'it returns false'. Refute it at one input. -/
def modelTakesWrong : ChangeSpec := { name := "modelTakes", fn := fun _ => fun
  | [d1, d2] => { results := [.lit (.bool false)], args := [d1, d2] }
  | _ => none }
def ModelTakesWrongFalsely : Prop := modelTakesRow.holds Try.pinned (OpenSpec.ofChange modelTakesWrong)

/-- 'hazellaw17.ModelNames': WHATEVER THE INPUT: true; the input reads as it did. -/
def modelNamesSpec : ChangeSpec := { name := "modelNames", fn := fun _ => fun
  | [d1, d2, d3] => { results := [.lit (.bool true)], args := [d1, d2, d3] }
  | _ => none }
def modelNamesRow : OpenClaim := { program := "ytpidaficnfaedaa", sum := "819415c6226e37ee8f9b34789879d8d0a5480c0ee6f50d02ca132ed9e4258d91", func := "hazel/hazellaw17.ModelNames", spec := "modelNames", unfollowed := true, recurses := true, apart := false }
def ModelNamesSaid : Prop := modelNamesRow.holds Try.pinned (OpenSpec.ofChange modelNamesSpec)

/-- ITS FALSE NEIGHBOUR: 'it returns false'. Refute it at one input. -/
def modelNamesWrong : ChangeSpec := { name := "modelNames", fn := fun _ => fun
  | [d1, d2, d3] => { results := [.lit (.bool false)], args := [d1, d2, d3] }
  | _ => none }
def ModelNamesWrongFalsely : Prop := modelNamesRow.holds Try.pinned (OpenSpec.ofChange modelNamesWrong)

/- THE SECOND FORM. 'bulk': how many values and letters a reading holds, each counted each time it is reached (what is shared counts as often as it is met; a slice's spare places count too). A statement '..UptoSaid' is the law's where the arguments, and the package variables that the reading takes, are together of bulk at most 1048576: NARROWER than '..Said'. Prove '..Said' where nothing that the law and all that it calls make is longer than what came in: it says more and counts as full. Else prove '..UptoSaid'. A law counts once. -/
mutual
def uptoBulk {H : Type} : DataW H → Nat
  | .lit (.string bytes) => bytes.length + 1
  | .lit _ => 1
  | .nil => 1
  | .ptr d => uptoBulk d + 1
  | .slice elems spare => uptoBulkAll elems + uptoBulkAll spare + 1
  | .agg parts => uptoBulkAll parts + 1
  | .iface _ d => uptoBulk d + 1
  | .map entries => uptoBulkEntries entries + 1
  | .held _ => 1
def uptoBulkAll {H : Type} : List (DataW H) → Nat
  | [] => 0
  | d :: r => uptoBulk d + uptoBulkAll r
def uptoBulkEntries {H : Type} : List (Lit × DataW H) → Nat
  | [] => 0
  | x :: r => uptoBulkEntry x + uptoBulkEntries r
def uptoBulkEntry {H : Type} : Lit × DataW H → Nat
  | (.string bytes, d) => bytes.length + uptoBulk d + 1
  | (_, d) => uptoBulk d + 1
 end
def uptoSmall : (H : Type) → List (DataW H) → Bool := fun _ ds => decide (uptoBulkAll ds ≤ 1048576)
def OpenSpec.upto (s : _root_.Go.ChangeSpec) : _root_.Go.OpenSpec := { _root_.Go.OpenSpec.ofChange s with cond := some uptoSmall }

/-- 'hazellaw17.ModelAgrees', WHERE WHAT IT READS IS OF BULK AT MOST 1048576: true; the input reads as it did. -/
def modelAgreesUptoRow : OpenClaim := { program := "ytpidaficnfaedaa", sum := "819415c6226e37ee8f9b34789879d8d0a5480c0ee6f50d02ca132ed9e4258d91", func := "hazel/hazellaw17.ModelAgrees", spec := "modelAgrees", unfollowed := true, recurses := true, apart := false, narrowed := true }
def ModelAgreesUptoSaid : Prop := modelAgreesUptoRow.holds Try.pinned (OpenSpec.upto modelAgreesSpec)

/-- 'hazellaw17.ModelParts', WHERE WHAT IT READS IS OF BULK AT MOST 1048576: true; the input reads as it did. -/
def modelPartsUptoRow : OpenClaim := { program := "ytpidaficnfaedaa", sum := "819415c6226e37ee8f9b34789879d8d0a5480c0ee6f50d02ca132ed9e4258d91", func := "hazel/hazellaw17.ModelParts", spec := "modelParts", unfollowed := true, recurses := true, apart := false, narrowed := true }
def ModelPartsUptoSaid : Prop := modelPartsUptoRow.holds Try.pinned (OpenSpec.upto modelPartsSpec)

/-- 'hazellaw17.ModelTwice', WHERE WHAT IT READS IS OF BULK AT MOST 1048576: true; the input reads as it did. -/
def modelTwiceUptoRow : OpenClaim := { program := "ytpidaficnfaedaa", sum := "819415c6226e37ee8f9b34789879d8d0a5480c0ee6f50d02ca132ed9e4258d91", func := "hazel/hazellaw17.ModelTwice", spec := "modelTwice", unfollowed := true, recurses := true, apart := false, narrowed := true }
def ModelTwiceUptoSaid : Prop := modelTwiceUptoRow.holds Try.pinned (OpenSpec.upto modelTwiceSpec)

/-- 'hazellaw17.ModelApart', WHERE WHAT IT READS IS OF BULK AT MOST 1048576: true; the input reads as it did. -/
def modelApartUptoRow : OpenClaim := { program := "ytpidaficnfaedaa", sum := "819415c6226e37ee8f9b34789879d8d0a5480c0ee6f50d02ca132ed9e4258d91", func := "hazel/hazellaw17.ModelApart", spec := "modelApart", unfollowed := true, recurses := true, apart := false, narrowed := true }
def ModelApartUptoSaid : Prop := modelApartUptoRow.holds Try.pinned (OpenSpec.upto modelApartSpec)

/-- 'hazellaw17.ModelQueues', WHERE WHAT IT READS IS OF BULK AT MOST 1048576: true; the input reads as it did. -/
def modelQueuesUptoRow : OpenClaim := { program := "ytpidaficnfaedaa", sum := "819415c6226e37ee8f9b34789879d8d0a5480c0ee6f50d02ca132ed9e4258d91", func := "hazel/hazellaw17.ModelQueues", spec := "modelQueues", unfollowed := true, recurses := true, apart := false, narrowed := true }
def ModelQueuesUptoSaid : Prop := modelQueuesUptoRow.holds Try.pinned (OpenSpec.upto modelQueuesSpec)

/-- 'hazellaw17.ModelTakes', WHERE WHAT IT READS IS OF BULK AT MOST 1048576: true; the input reads as it did. -/
def modelTakesUptoRow : OpenClaim := { program := "ytpidaficnfaedaa", sum := "819415c6226e37ee8f9b34789879d8d0a5480c0ee6f50d02ca132ed9e4258d91", func := "hazel/hazellaw17.ModelTakes", spec := "modelTakes", unfollowed := true, recurses := true, apart := false, narrowed := true }
def ModelTakesUptoSaid : Prop := modelTakesUptoRow.holds Try.pinned (OpenSpec.upto modelTakesSpec)

/-- 'hazellaw17.ModelNames', WHERE WHAT IT READS IS OF BULK AT MOST 1048576: true; the input reads as it did. -/
def modelNamesUptoRow : OpenClaim := { program := "ytpidaficnfaedaa", sum := "819415c6226e37ee8f9b34789879d8d0a5480c0ee6f50d02ca132ed9e4258d91", func := "hazel/hazellaw17.ModelNames", spec := "modelNames", unfollowed := true, recurses := true, apart := false, narrowed := true }
def ModelNamesUptoSaid : Prop := modelNamesUptoRow.holds Try.pinned (OpenSpec.upto modelNamesSpec)

end Rows
end Go.Proofs.Ytpidaficnfaedaa
