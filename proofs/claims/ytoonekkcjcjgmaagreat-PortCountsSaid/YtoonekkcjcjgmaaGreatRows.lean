/-
  No cell of these rows narrows 'for every input' (looked for: loops, veiled, ifaces, maps, wideKeys, modest, calm, conditions, laid).
  DERIVED. THE GIVEN ROWS OF THIS SEAT. 11 by the template 'for every input the law returns true; each argument reads behind the call as it read before'; 0 by the template 'total and deterministic' (their statements: YtoonekkcjcjgmaaGreatTotals.lean).
  GIVEN WITH THE SEED: the statements are not yours to turn. If you find one false, say at which input.
  Laid BY PROGRAM, IN A SANDBOX (cutbox-rows.mjs): the forced cells as the released guide's own fill.sh prints them over the translation 1710a6ff7708b70e… (all of the seat's roots in one cut). By AI agents, Wed Nov 11 2026. No macro, syntax, notation, axiom, sorry.
-/
import Derived.Test.YtoonekkcjcjgmaaGreatChecked
import GoSem.Claim
import GoSem.ClaimJoined
import GoSem.ClaimMapViews
import Derived.JoinedTies
import Derived.KernelRfl
namespace Go.Proofs.YtoonekkcjcjgmaaGreat
/- THE CELL 'sum', in the pinned program and in every row, IS THE sha256 OF THE DUMP (.gsa) THAT YtoonekkcjcjgmaaGreatProg.lean LOADS. Nothing in Lean hashes anything: it is a label: what it is worth is what the hold of that sum in a sandbox is worth. -/
noncomputable def Tryz.pinned : Pinned := { name := "ytoonekkcjcjgmaagreat", sum := "1710a6ff7708b70eefe3454589b88f7e7ee6a907d1007cf7fd124506d0803349", checked := Tryz.checked }
namespace Rows
def none {H : Type} : Left H := { results := [], args := [] }

/-- 'hazellaw13.ThrTells': WHATEVER THE INPUT: true; the input reads as it did. -/
def thrTellsSpec : ChangeSpec := { name := "thrTells", fn := fun _ => fun
  | [d] => { results := [.lit (.bool true)], args := [d] }
  | _ => none }
def thrTellsRow : OpenClaim := { program := "ytoonekkcjcjgmaagreat", sum := "1710a6ff7708b70eefe3454589b88f7e7ee6a907d1007cf7fd124506d0803349", func := "hazel/hazellaw13.ThrTells", spec := "thrTells", unfollowed := true, recurses := true, apart := false }
def ThrTellsSaid : Prop := thrTellsRow.holds Tryz.pinned (OpenSpec.ofChange thrTellsSpec)

/-- ITS FALSE NEIGHBOUR: 'it returns false'. Refute it at one input. -/
def thrTellsWrong : ChangeSpec := { name := "thrTells", fn := fun _ => fun
  | [d] => { results := [.lit (.bool false)], args := [d] }
  | _ => none }
def ThrTellsWrongFalsely : Prop := thrTellsRow.holds Tryz.pinned (OpenSpec.ofChange thrTellsWrong)

/-- 'hazellaw13.ThrSafe': WHATEVER THE INPUT: true; the input reads as it did. -/
def thrSafeSpec : ChangeSpec := { name := "thrSafe", fn := fun _ => fun
  | [d1, d2, d3] => { results := [.lit (.bool true)], args := [d1, d2, d3] }
  | _ => none }
def thrSafeRow : OpenClaim := { program := "ytoonekkcjcjgmaagreat", sum := "1710a6ff7708b70eefe3454589b88f7e7ee6a907d1007cf7fd124506d0803349", func := "hazel/hazellaw13.ThrSafe", spec := "thrSafe", unfollowed := true, recurses := true, apart := false }
def ThrSafeSaid : Prop := thrSafeRow.holds Tryz.pinned (OpenSpec.ofChange thrSafeSpec)

/-- ITS FALSE NEIGHBOUR: 'it returns false'. Refute it at one input. -/
def thrSafeWrong : ChangeSpec := { name := "thrSafe", fn := fun _ => fun
  | [d1, d2, d3] => { results := [.lit (.bool false)], args := [d1, d2, d3] }
  | _ => none }
def ThrSafeWrongFalsely : Prop := thrSafeRow.holds Tryz.pinned (OpenSpec.ofChange thrSafeWrong)

/-- 'hazellaw13.ThrWakes': WHATEVER THE INPUT: true; the input reads as it did. -/
def thrWakesSpec : ChangeSpec := { name := "thrWakes", fn := fun _ => fun
  | [d1, d2, d3] => { results := [.lit (.bool true)], args := [d1, d2, d3] }
  | _ => none }
def thrWakesRow : OpenClaim := { program := "ytoonekkcjcjgmaagreat", sum := "1710a6ff7708b70eefe3454589b88f7e7ee6a907d1007cf7fd124506d0803349", func := "hazel/hazellaw13.ThrWakes", spec := "thrWakes", unfollowed := true, recurses := true, apart := false }
def ThrWakesSaid : Prop := thrWakesRow.holds Tryz.pinned (OpenSpec.ofChange thrWakesSpec)

/-- ITS FALSE NEIGHBOUR: 'it returns false'. Refute it at one input. -/
def thrWakesWrong : ChangeSpec := { name := "thrWakes", fn := fun _ => fun
  | [d1, d2, d3] => { results := [.lit (.bool false)], args := [d1, d2, d3] }
  | _ => none }
def ThrWakesWrongFalsely : Prop := thrWakesRow.holds Tryz.pinned (OpenSpec.ofChange thrWakesWrong)

/-- 'hazellaw13.ThrMasks': WHATEVER THE INPUT: true; the input reads as it did. -/
def thrMasksSpec : ChangeSpec := { name := "thrMasks", fn := fun _ => fun
  | [d1, d2, d3] => { results := [.lit (.bool true)], args := [d1, d2, d3] }
  | _ => none }
def thrMasksRow : OpenClaim := { program := "ytoonekkcjcjgmaagreat", sum := "1710a6ff7708b70eefe3454589b88f7e7ee6a907d1007cf7fd124506d0803349", func := "hazel/hazellaw13.ThrMasks", spec := "thrMasks", unfollowed := true, recurses := true, apart := false }
def ThrMasksSaid : Prop := thrMasksRow.holds Tryz.pinned (OpenSpec.ofChange thrMasksSpec)

/-- ITS FALSE NEIGHBOUR: 'it returns false'. Refute it at one input. -/
def thrMasksWrong : ChangeSpec := { name := "thrMasks", fn := fun _ => fun
  | [d1, d2, d3] => { results := [.lit (.bool false)], args := [d1, d2, d3] }
  | _ => none }
def ThrMasksWrongFalsely : Prop := thrMasksRow.holds Tryz.pinned (OpenSpec.ofChange thrMasksWrong)

/-- 'hazellaw13.ThrMakes': WHATEVER THE INPUT: true; the input reads as it did. -/
def thrMakesSpec : ChangeSpec := { name := "thrMakes", fn := fun _ => fun
  | [d] => { results := [.lit (.bool true)], args := [d] }
  | _ => none }
def thrMakesRow : OpenClaim := { program := "ytoonekkcjcjgmaagreat", sum := "1710a6ff7708b70eefe3454589b88f7e7ee6a907d1007cf7fd124506d0803349", func := "hazel/hazellaw13.ThrMakes", spec := "thrMakes", unfollowed := true, recurses := true, apart := false }
def ThrMakesSaid : Prop := thrMakesRow.holds Tryz.pinned (OpenSpec.ofChange thrMakesSpec)

/-- ITS FALSE NEIGHBOUR: 'it returns false'. Refute it at one input. -/
def thrMakesWrong : ChangeSpec := { name := "thrMakes", fn := fun _ => fun
  | [d] => { results := [.lit (.bool false)], args := [d] }
  | _ => none }
def ThrMakesWrongFalsely : Prop := thrMakesRow.holds Tryz.pinned (OpenSpec.ofChange thrMakesWrong)

/-- 'hazellaw13.ThrSteals': WHATEVER THE INPUT: true; the input reads as it did. -/
def thrStealsSpec : ChangeSpec := { name := "thrSteals", fn := fun _ => fun
  | [d1, d2, d3] => { results := [.lit (.bool true)], args := [d1, d2, d3] }
  | _ => none }
def thrStealsRow : OpenClaim := { program := "ytoonekkcjcjgmaagreat", sum := "1710a6ff7708b70eefe3454589b88f7e7ee6a907d1007cf7fd124506d0803349", func := "hazel/hazellaw13.ThrSteals", spec := "thrSteals", unfollowed := true, recurses := true, apart := false }
def ThrStealsSaid : Prop := thrStealsRow.holds Tryz.pinned (OpenSpec.ofChange thrStealsSpec)

/-- ITS FALSE NEIGHBOUR: 'it returns false'. Refute it at one input. -/
def thrStealsWrong : ChangeSpec := { name := "thrSteals", fn := fun _ => fun
  | [d1, d2, d3] => { results := [.lit (.bool false)], args := [d1, d2, d3] }
  | _ => none }
def ThrStealsWrongFalsely : Prop := thrStealsRow.holds Tryz.pinned (OpenSpec.ofChange thrStealsWrong)

/-- 'hazellaw14.PortTells': WHATEVER THE INPUT: true; the input reads as it did. -/
def portTellsSpec : ChangeSpec := { name := "portTells", fn := fun _ => fun
  | [d] => { results := [.lit (.bool true)], args := [d] }
  | _ => none }
def portTellsRow : OpenClaim := { program := "ytoonekkcjcjgmaagreat", sum := "1710a6ff7708b70eefe3454589b88f7e7ee6a907d1007cf7fd124506d0803349", func := "hazel/hazellaw14.PortTells", spec := "portTells", unfollowed := true, recurses := true, apart := false }
def PortTellsSaid : Prop := portTellsRow.holds Tryz.pinned (OpenSpec.ofChange portTellsSpec)

/-- ITS FALSE NEIGHBOUR: 'it returns false'. Refute it at one input. -/
def portTellsWrong : ChangeSpec := { name := "portTells", fn := fun _ => fun
  | [d] => { results := [.lit (.bool false)], args := [d] }
  | _ => none }
def PortTellsWrongFalsely : Prop := portTellsRow.holds Tryz.pinned (OpenSpec.ofChange portTellsWrong)

/-- 'hazellaw14.PortNoLost': WHATEVER THE INPUT: true; the input reads as it did. -/
def portNoLostSpec : ChangeSpec := { name := "portNoLost", fn := fun _ => fun
  | [d] => { results := [.lit (.bool true)], args := [d] }
  | _ => none }
def portNoLostRow : OpenClaim := { program := "ytoonekkcjcjgmaagreat", sum := "1710a6ff7708b70eefe3454589b88f7e7ee6a907d1007cf7fd124506d0803349", func := "hazel/hazellaw14.PortNoLost", spec := "portNoLost", unfollowed := true, recurses := true, apart := false }
def PortNoLostSaid : Prop := portNoLostRow.holds Tryz.pinned (OpenSpec.ofChange portNoLostSpec)

/-- ITS FALSE NEIGHBOUR: 'it returns false'. Refute it at one input. -/
def portNoLostWrong : ChangeSpec := { name := "portNoLost", fn := fun _ => fun
  | [d] => { results := [.lit (.bool false)], args := [d] }
  | _ => none }
def PortNoLostWrongFalsely : Prop := portNoLostRow.holds Tryz.pinned (OpenSpec.ofChange portNoLostWrong)

/-- 'hazellaw14.PortOnce': WHATEVER THE INPUT: true; the input reads as it did. -/
def portOnceSpec : ChangeSpec := { name := "portOnce", fn := fun _ => fun
  | [d] => { results := [.lit (.bool true)], args := [d] }
  | _ => none }
def portOnceRow : OpenClaim := { program := "ytoonekkcjcjgmaagreat", sum := "1710a6ff7708b70eefe3454589b88f7e7ee6a907d1007cf7fd124506d0803349", func := "hazel/hazellaw14.PortOnce", spec := "portOnce", unfollowed := true, recurses := true, apart := false }
def PortOnceSaid : Prop := portOnceRow.holds Tryz.pinned (OpenSpec.ofChange portOnceSpec)

/-- ITS FALSE NEIGHBOUR: 'it returns false'. Refute it at one input. -/
def portOnceWrong : ChangeSpec := { name := "portOnce", fn := fun _ => fun
  | [d] => { results := [.lit (.bool false)], args := [d] }
  | _ => none }
def PortOnceWrongFalsely : Prop := portOnceRow.holds Tryz.pinned (OpenSpec.ofChange portOnceWrong)

/-- 'hazellaw14.PortPairs': WHATEVER THE INPUT: true; the input reads as it did. -/
def portPairsSpec : ChangeSpec := { name := "portPairs", fn := fun _ => fun
  | [d1, d2, d3] => { results := [.lit (.bool true)], args := [d1, d2, d3] }
  | _ => none }
def portPairsRow : OpenClaim := { program := "ytoonekkcjcjgmaagreat", sum := "1710a6ff7708b70eefe3454589b88f7e7ee6a907d1007cf7fd124506d0803349", func := "hazel/hazellaw14.PortPairs", spec := "portPairs", unfollowed := true, recurses := true, apart := false }
def PortPairsSaid : Prop := portPairsRow.holds Tryz.pinned (OpenSpec.ofChange portPairsSpec)

/-- ITS FALSE NEIGHBOUR: 'it returns false'. Refute it at one input. -/
def portPairsWrong : ChangeSpec := { name := "portPairs", fn := fun _ => fun
  | [d1, d2, d3] => { results := [.lit (.bool false)], args := [d1, d2, d3] }
  | _ => none }
def PortPairsWrongFalsely : Prop := portPairsRow.holds Tryz.pinned (OpenSpec.ofChange portPairsWrong)

/-- 'hazellaw14.PortCounts': WHATEVER THE INPUT: true; the input reads as it did. -/
def portCountsSpec : ChangeSpec := { name := "portCounts", fn := fun _ => fun
  | [d] => { results := [.lit (.bool true)], args := [d] }
  | _ => none }
def portCountsRow : OpenClaim := { program := "ytoonekkcjcjgmaagreat", sum := "1710a6ff7708b70eefe3454589b88f7e7ee6a907d1007cf7fd124506d0803349", func := "hazel/hazellaw14.PortCounts", spec := "portCounts", unfollowed := true, recurses := true, apart := false }
def PortCountsSaid : Prop := portCountsRow.holds Tryz.pinned (OpenSpec.ofChange portCountsSpec)

/-- ITS FALSE NEIGHBOUR: 'it returns false'. Refute it at one input. -/
def portCountsWrong : ChangeSpec := { name := "portCounts", fn := fun _ => fun
  | [d] => { results := [.lit (.bool false)], args := [d] }
  | _ => none }
def PortCountsWrongFalsely : Prop := portCountsRow.holds Tryz.pinned (OpenSpec.ofChange portCountsWrong)

/- THE SECOND FORM. 'bulk': how many values and letters a reading holds, each counted each time it is reached (what is shared counts as often as it is met; a slice's spare places count too). A statement '..UptoSaid' is the law's where the arguments, and the package variables that the reading takes, are together of bulk at most 1048576: NARROWER than '..Said'. Prove '..Said' where nothing that the law and all that it calls make is longer than what came in: it says more and counts as full. Else prove '..UptoSaid'. A law counts once. -/
mutual
def uptoBulk {H : Type} : DataW H → Nat
  | .lit (.string bytes) => bytes.length + 1
  | .lit _ => 1
  | .nil => 1
  | .ptr d => uptoBulk d + 1
  | .slice elems spare => uptoBulkAll elems + uptoBulkAll spare + 1
  | .agg parts => uptoBulkAll parts + 1
  | .iface _ d => uptoBulk d + 1
  | .map entries => uptoBulkEntries entries + 1
  | .held _ => 1
def uptoBulkAll {H : Type} : List (DataW H) → Nat
  | [] => 0
  | d :: r => uptoBulk d + uptoBulkAll r
def uptoBulkEntries {H : Type} : List (Lit × DataW H) → Nat
  | [] => 0
  | x :: r => uptoBulkEntry x + uptoBulkEntries r
def uptoBulkEntry {H : Type} : Lit × DataW H → Nat
  | (.string bytes, d) => bytes.length + uptoBulk d + 1
  | (_, d) => uptoBulk d + 1
 end
def uptoSmall : (H : Type) → List (DataW H) → Bool := fun _ ds => decide (uptoBulkAll ds ≤ 1048576)
def OpenSpec.upto (s : _root_.Go.ChangeSpec) : _root_.Go.OpenSpec := { _root_.Go.OpenSpec.ofChange s with cond := some uptoSmall }

/-- 'hazellaw13.ThrTells', WHERE WHAT IT READS IS OF BULK AT MOST 1048576: true; the input reads as it did. -/
def thrTellsUptoRow : OpenClaim := { program := "ytoonekkcjcjgmaagreat", sum := "1710a6ff7708b70eefe3454589b88f7e7ee6a907d1007cf7fd124506d0803349", func := "hazel/hazellaw13.ThrTells", spec := "thrTells", unfollowed := true, recurses := true, apart := false, narrowed := true }
def ThrTellsUptoSaid : Prop := thrTellsUptoRow.holds Tryz.pinned (OpenSpec.upto thrTellsSpec)

/-- 'hazellaw13.ThrSafe', WHERE WHAT IT READS IS OF BULK AT MOST 1048576: true; the input reads as it did. -/
def thrSafeUptoRow : OpenClaim := { program := "ytoonekkcjcjgmaagreat", sum := "1710a6ff7708b70eefe3454589b88f7e7ee6a907d1007cf7fd124506d0803349", func := "hazel/hazellaw13.ThrSafe", spec := "thrSafe", unfollowed := true, recurses := true, apart := false, narrowed := true }
def ThrSafeUptoSaid : Prop := thrSafeUptoRow.holds Tryz.pinned (OpenSpec.upto thrSafeSpec)

/-- 'hazellaw13.ThrWakes', WHERE WHAT IT READS IS OF BULK AT MOST 1048576: true; the input reads as it did. -/
def thrWakesUptoRow : OpenClaim := { program := "ytoonekkcjcjgmaagreat", sum := "1710a6ff7708b70eefe3454589b88f7e7ee6a907d1007cf7fd124506d0803349", func := "hazel/hazellaw13.ThrWakes", spec := "thrWakes", unfollowed := true, recurses := true, apart := false, narrowed := true }
def ThrWakesUptoSaid : Prop := thrWakesUptoRow.holds Tryz.pinned (OpenSpec.upto thrWakesSpec)

/-- 'hazellaw13.ThrMasks', WHERE WHAT IT READS IS OF BULK AT MOST 1048576: true; the input reads as it did. -/
def thrMasksUptoRow : OpenClaim := { program := "ytoonekkcjcjgmaagreat", sum := "1710a6ff7708b70eefe3454589b88f7e7ee6a907d1007cf7fd124506d0803349", func := "hazel/hazellaw13.ThrMasks", spec := "thrMasks", unfollowed := true, recurses := true, apart := false, narrowed := true }
def ThrMasksUptoSaid : Prop := thrMasksUptoRow.holds Tryz.pinned (OpenSpec.upto thrMasksSpec)

/-- 'hazellaw13.ThrMakes', WHERE WHAT IT READS IS OF BULK AT MOST 1048576: true; the input reads as it did. -/
def thrMakesUptoRow : OpenClaim := { program := "ytoonekkcjcjgmaagreat", sum := "1710a6ff7708b70eefe3454589b88f7e7ee6a907d1007cf7fd124506d0803349", func := "hazel/hazellaw13.ThrMakes", spec := "thrMakes", unfollowed := true, recurses := true, apart := false, narrowed := true }
def ThrMakesUptoSaid : Prop := thrMakesUptoRow.holds Tryz.pinned (OpenSpec.upto thrMakesSpec)

/-- 'hazellaw13.ThrSteals', WHERE WHAT IT READS IS OF BULK AT MOST 1048576: true; the input reads as it did. -/
def thrStealsUptoRow : OpenClaim := { program := "ytoonekkcjcjgmaagreat", sum := "1710a6ff7708b70eefe3454589b88f7e7ee6a907d1007cf7fd124506d0803349", func := "hazel/hazellaw13.ThrSteals", spec := "thrSteals", unfollowed := true, recurses := true, apart := false, narrowed := true }
def ThrStealsUptoSaid : Prop := thrStealsUptoRow.holds Tryz.pinned (OpenSpec.upto thrStealsSpec)

/-- 'hazellaw14.PortTells', WHERE WHAT IT READS IS OF BULK AT MOST 1048576: true; the input reads as it did. -/
def portTellsUptoRow : OpenClaim := { program := "ytoonekkcjcjgmaagreat", sum := "1710a6ff7708b70eefe3454589b88f7e7ee6a907d1007cf7fd124506d0803349", func := "hazel/hazellaw14.PortTells", spec := "portTells", unfollowed := true, recurses := true, apart := false, narrowed := true }
def PortTellsUptoSaid : Prop := portTellsUptoRow.holds Tryz.pinned (OpenSpec.upto portTellsSpec)

/-- 'hazellaw14.PortNoLost', WHERE WHAT IT READS IS OF BULK AT MOST 1048576: true; the input reads as it did. -/
def portNoLostUptoRow : OpenClaim := { program := "ytoonekkcjcjgmaagreat", sum := "1710a6ff7708b70eefe3454589b88f7e7ee6a907d1007cf7fd124506d0803349", func := "hazel/hazellaw14.PortNoLost", spec := "portNoLost", unfollowed := true, recurses := true, apart := false, narrowed := true }
def PortNoLostUptoSaid : Prop := portNoLostUptoRow.holds Tryz.pinned (OpenSpec.upto portNoLostSpec)

/-- 'hazellaw14.PortOnce', WHERE WHAT IT READS IS OF BULK AT MOST 1048576: true; the input reads as it did. -/
def portOnceUptoRow : OpenClaim := { program := "ytoonekkcjcjgmaagreat", sum := "1710a6ff7708b70eefe3454589b88f7e7ee6a907d1007cf7fd124506d0803349", func := "hazel/hazellaw14.PortOnce", spec := "portOnce", unfollowed := true, recurses := true, apart := false, narrowed := true }
def PortOnceUptoSaid : Prop := portOnceUptoRow.holds Tryz.pinned (OpenSpec.upto portOnceSpec)

/-- 'hazellaw14.PortPairs', WHERE WHAT IT READS IS OF BULK AT MOST 1048576: true; the input reads as it did. -/
def portPairsUptoRow : OpenClaim := { program := "ytoonekkcjcjgmaagreat", sum := "1710a6ff7708b70eefe3454589b88f7e7ee6a907d1007cf7fd124506d0803349", func := "hazel/hazellaw14.PortPairs", spec := "portPairs", unfollowed := true, recurses := true, apart := false, narrowed := true }
def PortPairsUptoSaid : Prop := portPairsUptoRow.holds Tryz.pinned (OpenSpec.upto portPairsSpec)

/-- 'hazellaw14.PortCounts', WHERE WHAT IT READS IS OF BULK AT MOST 1048576: true; the input reads as it did. -/
def portCountsUptoRow : OpenClaim := { program := "ytoonekkcjcjgmaagreat", sum := "1710a6ff7708b70eefe3454589b88f7e7ee6a907d1007cf7fd124506d0803349", func := "hazel/hazellaw14.PortCounts", spec := "portCounts", unfollowed := true, recurses := true, apart := false, narrowed := true }
def PortCountsUptoSaid : Prop := portCountsUptoRow.holds Tryz.pinned (OpenSpec.upto portCountsSpec)

end Rows
end Go.Proofs.YtoonekkcjcjgmaaGreat
