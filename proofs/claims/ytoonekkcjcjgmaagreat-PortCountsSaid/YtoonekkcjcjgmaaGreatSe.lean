/-
  Chapter 14: the document's example, step by step: steps (written by a program of our own: wip/tools).
  Conditions: none.
-/
import Derived.Test.YtoonekkcjcjgmaaGreatSd
open Go Go.Proofs
namespace Go.Proofs.Hz
theorem bt63 : [callN FF Gl.X 80 45 [SK66, .int .i64 0], callN FF Gl.X 80 45 [SK67, .int .i64 0], callN FF Gl.X 80 45 [SK68, .int .i64 0], callN FF Gl.X 80 45 [SK69, .int .i64 0], callN FF Gl.X 80 45 [SK70, .int .i64 0], callN FF Gl.X 80 45 [SK71, .int .i64 0], callN FF Gl.X 80 45 [SK72, .int .i64 0]] = [some SK66, some SK68, some SK69, some SK70, some SK71, some SK72, some SK73] := by kernel_rfl
theorem st63 : Spec FF 45 [SK66, .int .i64 0] SK66 := ⟨80, (List.cons.inj bt63).1⟩
theorem st64 : Spec FF 45 [SK67, .int .i64 0] SK68 := ⟨80, (List.cons.inj (List.cons.inj bt63).2).1⟩
theorem st65 : Spec FF 45 [SK68, .int .i64 0] SK69 := ⟨80, (List.cons.inj (List.cons.inj (List.cons.inj bt63).2).2).1⟩
theorem st66 : Spec FF 45 [SK69, .int .i64 0] SK70 := ⟨80, (List.cons.inj (List.cons.inj (List.cons.inj (List.cons.inj bt63).2).2).2).1⟩
theorem st67 : Spec FF 45 [SK70, .int .i64 0] SK71 := ⟨80, (List.cons.inj (List.cons.inj (List.cons.inj (List.cons.inj (List.cons.inj bt63).2).2).2).2).1⟩
theorem st68 : Spec FF 45 [SK71, .int .i64 0] SK72 := ⟨80, (List.cons.inj (List.cons.inj (List.cons.inj (List.cons.inj (List.cons.inj (List.cons.inj bt63).2).2).2).2).2).1⟩
theorem st69 : Spec FF 45 [SK72, .int .i64 0] SK73 := ⟨80, (List.cons.inj (List.cons.inj (List.cons.inj (List.cons.inj (List.cons.inj (List.cons.inj (List.cons.inj bt63).2).2).2).2).2).2).1⟩
theorem bt70 : [callN FF Gl.X 80 45 [SK73, .int .i64 0], callN FF Gl.X 80 45 [SK74, .int .i64 0], callN FF Gl.X 80 45 [SK75, .int .i64 0], callN FF Gl.X 80 45 [SK76, .int .i64 0], callN FF Gl.X 80 45 [SK77, .int .i64 0], callN FF Gl.X 80 45 [SK78, .int .i64 0], callN FF Gl.X 80 45 [SK79, .int .i64 0]] = [some SK74, some SK75, some SK76, some SK77, some SK78, some SK79, some SK80] := by kernel_rfl
theorem st70 : Spec FF 45 [SK73, .int .i64 0] SK74 := ⟨80, (List.cons.inj bt70).1⟩
theorem st71 : Spec FF 45 [SK74, .int .i64 0] SK75 := ⟨80, (List.cons.inj (List.cons.inj bt70).2).1⟩
theorem st72 : Spec FF 45 [SK75, .int .i64 0] SK76 := ⟨80, (List.cons.inj (List.cons.inj (List.cons.inj bt70).2).2).1⟩
theorem st73 : Spec FF 45 [SK76, .int .i64 0] SK77 := ⟨80, (List.cons.inj (List.cons.inj (List.cons.inj (List.cons.inj bt70).2).2).2).1⟩
theorem st74 : Spec FF 45 [SK77, .int .i64 0] SK78 := ⟨80, (List.cons.inj (List.cons.inj (List.cons.inj (List.cons.inj (List.cons.inj bt70).2).2).2).2).1⟩
theorem st75 : Spec FF 45 [SK78, .int .i64 0] SK79 := ⟨80, (List.cons.inj (List.cons.inj (List.cons.inj (List.cons.inj (List.cons.inj (List.cons.inj bt70).2).2).2).2).2).1⟩
theorem st76 : Spec FF 45 [SK79, .int .i64 0] SK80 := ⟨80, (List.cons.inj (List.cons.inj (List.cons.inj (List.cons.inj (List.cons.inj (List.cons.inj (List.cons.inj bt70).2).2).2).2).2).2).1⟩
theorem bt77 : [callN FF Gl.X 80 45 [SK80, .int .i64 0], callN FF Gl.X 80 45 [SK81, .int .i64 0], callN FF Gl.X 80 45 [SK82, .int .i64 0], callN FF Gl.X 80 45 [SK83, .int .i64 0]] = [some SK81, some SK82, some SK83, some SK83] := by kernel_rfl
theorem st77 : Spec FF 45 [SK80, .int .i64 0] SK81 := ⟨80, (List.cons.inj bt77).1⟩
theorem st78 : Spec FF 45 [SK81, .int .i64 0] SK82 := ⟨80, (List.cons.inj (List.cons.inj bt77).2).1⟩
theorem st79 : Spec FF 45 [SK82, .int .i64 0] SK83 := ⟨80, (List.cons.inj (List.cons.inj (List.cons.inj bt77).2).2).1⟩
theorem st80 : Spec FF 45 [SK83, .int .i64 0] SK83 := ⟨80, (List.cons.inj (List.cons.inj (List.cons.inj (List.cons.inj bt77).2).2).2).1⟩
end Go.Proofs.Hz
