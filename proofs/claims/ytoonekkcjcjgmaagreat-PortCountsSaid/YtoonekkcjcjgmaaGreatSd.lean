/-
  Chapter 14: the document's example, step by step: steps (written by a program of our own: wip/tools).
  Conditions: none.
-/
import Derived.Test.YtoonekkcjcjgmaaGreatSc
open Go Go.Proofs
namespace Go.Proofs.Hz
theorem bt42 : [callN FF Gl.X 80 45 [SK45, .int .i64 0], callN FF Gl.X 80 45 [SK46, .int .i64 0], callN FF Gl.X 80 45 [SK47, .int .i64 0], callN FF Gl.X 80 45 [SK48, .int .i64 0], callN FF Gl.X 80 45 [SK49, .int .i64 0], callN FF Gl.X 80 45 [SK50, .int .i64 0], callN FF Gl.X 80 45 [SK51, .int .i64 0]] = [some SK46, some SK47, some SK48, some SK49, some SK50, some SK51, some SK52] := by kernel_rfl
theorem st42 : Spec FF 45 [SK45, .int .i64 0] SK46 := ⟨80, (List.cons.inj bt42).1⟩
theorem st43 : Spec FF 45 [SK46, .int .i64 0] SK47 := ⟨80, (List.cons.inj (List.cons.inj bt42).2).1⟩
theorem st44 : Spec FF 45 [SK47, .int .i64 0] SK48 := ⟨80, (List.cons.inj (List.cons.inj (List.cons.inj bt42).2).2).1⟩
theorem st45 : Spec FF 45 [SK48, .int .i64 0] SK49 := ⟨80, (List.cons.inj (List.cons.inj (List.cons.inj (List.cons.inj bt42).2).2).2).1⟩
theorem st46 : Spec FF 45 [SK49, .int .i64 0] SK50 := ⟨80, (List.cons.inj (List.cons.inj (List.cons.inj (List.cons.inj (List.cons.inj bt42).2).2).2).2).1⟩
theorem st47 : Spec FF 45 [SK50, .int .i64 0] SK51 := ⟨80, (List.cons.inj (List.cons.inj (List.cons.inj (List.cons.inj (List.cons.inj (List.cons.inj bt42).2).2).2).2).2).1⟩
theorem st48 : Spec FF 45 [SK51, .int .i64 0] SK52 := ⟨80, (List.cons.inj (List.cons.inj (List.cons.inj (List.cons.inj (List.cons.inj (List.cons.inj (List.cons.inj bt42).2).2).2).2).2).2).1⟩
theorem bt49 : [callN FF Gl.X 80 45 [SK52, .int .i64 0], callN FF Gl.X 80 45 [SK53, .int .i64 0], callN FF Gl.X 80 45 [SK54, .int .i64 0], callN FF Gl.X 80 45 [SK55, .int .i64 0], callN FF Gl.X 80 45 [SK56, .int .i64 0], callN FF Gl.X 80 45 [SK57, .int .i64 0], callN FF Gl.X 80 45 [SK58, .int .i64 0]] = [some SK53, some SK54, some SK55, some SK56, some SK57, some SK58, some SK59] := by kernel_rfl
theorem st49 : Spec FF 45 [SK52, .int .i64 0] SK53 := ⟨80, (List.cons.inj bt49).1⟩
theorem st50 : Spec FF 45 [SK53, .int .i64 0] SK54 := ⟨80, (List.cons.inj (List.cons.inj bt49).2).1⟩
theorem st51 : Spec FF 45 [SK54, .int .i64 0] SK55 := ⟨80, (List.cons.inj (List.cons.inj (List.cons.inj bt49).2).2).1⟩
theorem st52 : Spec FF 45 [SK55, .int .i64 0] SK56 := ⟨80, (List.cons.inj (List.cons.inj (List.cons.inj (List.cons.inj bt49).2).2).2).1⟩
theorem st53 : Spec FF 45 [SK56, .int .i64 0] SK57 := ⟨80, (List.cons.inj (List.cons.inj (List.cons.inj (List.cons.inj (List.cons.inj bt49).2).2).2).2).1⟩
theorem st54 : Spec FF 45 [SK57, .int .i64 0] SK58 := ⟨80, (List.cons.inj (List.cons.inj (List.cons.inj (List.cons.inj (List.cons.inj (List.cons.inj bt49).2).2).2).2).2).1⟩
theorem st55 : Spec FF 45 [SK58, .int .i64 0] SK59 := ⟨80, (List.cons.inj (List.cons.inj (List.cons.inj (List.cons.inj (List.cons.inj (List.cons.inj (List.cons.inj bt49).2).2).2).2).2).2).1⟩
theorem bt56 : [callN FF Gl.X 80 45 [SK59, .int .i64 0], callN FF Gl.X 80 45 [SK60, .int .i64 0], callN FF Gl.X 80 45 [SK61, .int .i64 0], callN FF Gl.X 80 45 [SK62, .int .i64 0], callN FF Gl.X 80 45 [SK63, .int .i64 0], callN FF Gl.X 80 45 [SK64, .int .i64 0], callN FF Gl.X 80 45 [SK65, .int .i64 0]] = [some SK60, some SK61, some SK61, some SK63, some SK64, some SK65, some SK66] := by kernel_rfl
theorem st56 : Spec FF 45 [SK59, .int .i64 0] SK60 := ⟨80, (List.cons.inj bt56).1⟩
theorem st57 : Spec FF 45 [SK60, .int .i64 0] SK61 := ⟨80, (List.cons.inj (List.cons.inj bt56).2).1⟩
theorem st58 : Spec FF 45 [SK61, .int .i64 0] SK61 := ⟨80, (List.cons.inj (List.cons.inj (List.cons.inj bt56).2).2).1⟩
theorem st59 : Spec FF 45 [SK62, .int .i64 0] SK63 := ⟨80, (List.cons.inj (List.cons.inj (List.cons.inj (List.cons.inj bt56).2).2).2).1⟩
theorem st60 : Spec FF 45 [SK63, .int .i64 0] SK64 := ⟨80, (List.cons.inj (List.cons.inj (List.cons.inj (List.cons.inj (List.cons.inj bt56).2).2).2).2).1⟩
theorem st61 : Spec FF 45 [SK64, .int .i64 0] SK65 := ⟨80, (List.cons.inj (List.cons.inj (List.cons.inj (List.cons.inj (List.cons.inj (List.cons.inj bt56).2).2).2).2).2).1⟩
theorem st62 : Spec FF 45 [SK65, .int .i64 0] SK66 := ⟨80, (List.cons.inj (List.cons.inj (List.cons.inj (List.cons.inj (List.cons.inj (List.cons.inj (List.cons.inj bt56).2).2).2).2).2).2).1⟩
end Go.Proofs.Hz
