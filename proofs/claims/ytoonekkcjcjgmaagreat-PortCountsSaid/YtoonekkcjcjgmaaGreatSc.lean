/-
  Chapter 14: the document's example, step by step: steps (written by a program of our own: wip/tools).
  Conditions: none.
-/
import Derived.Test.YtoonekkcjcjgmaaGreatSb
open Go Go.Proofs
namespace Go.Proofs.Hz
theorem bt21 : [callN FF Gl.X 80 45 [SK24, .int .i64 0], callN FF Gl.X 80 45 [SK25, .int .i64 0], callN FF Gl.X 80 45 [SK26, .int .i64 0], callN FF Gl.X 80 45 [SK27, .int .i64 0], callN FF Gl.X 80 45 [SK28, .int .i64 0], callN FF Gl.X 80 45 [SK29, .int .i64 0], callN FF Gl.X 80 45 [SK30, .int .i64 0]] = [some SK25, some SK26, some SK27, some SK28, some SK29, some SK30, some SK30] := by kernel_rfl
theorem st21 : Spec FF 45 [SK24, .int .i64 0] SK25 := ⟨80, (List.cons.inj bt21).1⟩
theorem st22 : Spec FF 45 [SK25, .int .i64 0] SK26 := ⟨80, (List.cons.inj (List.cons.inj bt21).2).1⟩
theorem st23 : Spec FF 45 [SK26, .int .i64 0] SK27 := ⟨80, (List.cons.inj (List.cons.inj (List.cons.inj bt21).2).2).1⟩
theorem st24 : Spec FF 45 [SK27, .int .i64 0] SK28 := ⟨80, (List.cons.inj (List.cons.inj (List.cons.inj (List.cons.inj bt21).2).2).2).1⟩
theorem st25 : Spec FF 45 [SK28, .int .i64 0] SK29 := ⟨80, (List.cons.inj (List.cons.inj (List.cons.inj (List.cons.inj (List.cons.inj bt21).2).2).2).2).1⟩
theorem st26 : Spec FF 45 [SK29, .int .i64 0] SK30 := ⟨80, (List.cons.inj (List.cons.inj (List.cons.inj (List.cons.inj (List.cons.inj (List.cons.inj bt21).2).2).2).2).2).1⟩
theorem st27 : Spec FF 45 [SK30, .int .i64 0] SK30 := ⟨80, (List.cons.inj (List.cons.inj (List.cons.inj (List.cons.inj (List.cons.inj (List.cons.inj (List.cons.inj bt21).2).2).2).2).2).2).1⟩
theorem bt28 : [callN FF Gl.X 80 45 [SK31, .int .i64 0], callN FF Gl.X 80 45 [SK32, .int .i64 0], callN FF Gl.X 80 45 [SK33, .int .i64 0], callN FF Gl.X 80 45 [SK34, .int .i64 0], callN FF Gl.X 80 45 [SK35, .int .i64 0], callN FF Gl.X 80 45 [SK36, .int .i64 0], callN FF Gl.X 80 45 [SK37, .int .i64 0]] = [some SK32, some SK33, some SK34, some SK35, some SK36, some SK37, some SK38] := by kernel_rfl
theorem st28 : Spec FF 45 [SK31, .int .i64 0] SK32 := ⟨80, (List.cons.inj bt28).1⟩
theorem st29 : Spec FF 45 [SK32, .int .i64 0] SK33 := ⟨80, (List.cons.inj (List.cons.inj bt28).2).1⟩
theorem st30 : Spec FF 45 [SK33, .int .i64 0] SK34 := ⟨80, (List.cons.inj (List.cons.inj (List.cons.inj bt28).2).2).1⟩
theorem st31 : Spec FF 45 [SK34, .int .i64 0] SK35 := ⟨80, (List.cons.inj (List.cons.inj (List.cons.inj (List.cons.inj bt28).2).2).2).1⟩
theorem st32 : Spec FF 45 [SK35, .int .i64 0] SK36 := ⟨80, (List.cons.inj (List.cons.inj (List.cons.inj (List.cons.inj (List.cons.inj bt28).2).2).2).2).1⟩
theorem st33 : Spec FF 45 [SK36, .int .i64 0] SK37 := ⟨80, (List.cons.inj (List.cons.inj (List.cons.inj (List.cons.inj (List.cons.inj (List.cons.inj bt28).2).2).2).2).2).1⟩
theorem st34 : Spec FF 45 [SK37, .int .i64 0] SK38 := ⟨80, (List.cons.inj (List.cons.inj (List.cons.inj (List.cons.inj (List.cons.inj (List.cons.inj (List.cons.inj bt28).2).2).2).2).2).2).1⟩
theorem bt35 : [callN FF Gl.X 80 45 [SK38, .int .i64 0], callN FF Gl.X 80 45 [SK39, .int .i64 0], callN FF Gl.X 80 45 [SK40, .int .i64 0], callN FF Gl.X 80 45 [SK41, .int .i64 0], callN FF Gl.X 80 45 [SK42, .int .i64 0], callN FF Gl.X 80 45 [SK43, .int .i64 0], callN FF Gl.X 80 45 [SK44, .int .i64 0]] = [some SK39, some SK40, some SK41, some SK42, some SK43, some SK44, some SK45] := by kernel_rfl
theorem st35 : Spec FF 45 [SK38, .int .i64 0] SK39 := ⟨80, (List.cons.inj bt35).1⟩
theorem st36 : Spec FF 45 [SK39, .int .i64 0] SK40 := ⟨80, (List.cons.inj (List.cons.inj bt35).2).1⟩
theorem st37 : Spec FF 45 [SK40, .int .i64 0] SK41 := ⟨80, (List.cons.inj (List.cons.inj (List.cons.inj bt35).2).2).1⟩
theorem st38 : Spec FF 45 [SK41, .int .i64 0] SK42 := ⟨80, (List.cons.inj (List.cons.inj (List.cons.inj (List.cons.inj bt35).2).2).2).1⟩
theorem st39 : Spec FF 45 [SK42, .int .i64 0] SK43 := ⟨80, (List.cons.inj (List.cons.inj (List.cons.inj (List.cons.inj (List.cons.inj bt35).2).2).2).2).1⟩
theorem st40 : Spec FF 45 [SK43, .int .i64 0] SK44 := ⟨80, (List.cons.inj (List.cons.inj (List.cons.inj (List.cons.inj (List.cons.inj (List.cons.inj bt35).2).2).2).2).2).1⟩
theorem st41 : Spec FF 45 [SK44, .int .i64 0] SK45 := ⟨80, (List.cons.inj (List.cons.inj (List.cons.inj (List.cons.inj (List.cons.inj (List.cons.inj (List.cons.inj bt35).2).2).2).2).2).2).1⟩
end Go.Proofs.Hz
