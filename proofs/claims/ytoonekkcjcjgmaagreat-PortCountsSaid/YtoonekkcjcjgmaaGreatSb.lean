/-
  Chapter 14: the document's example, step by step: steps (written by a program of our own: wip/tools).
  Conditions: none.
-/
import Derived.Test.YtoonekkcjcjgmaaGreatSa
open Go Go.Proofs
namespace Go.Proofs.Hz
theorem bt0 : [callN FF Gl.X 80 45 [SK3, .int .i64 0], callN FF Gl.X 80 45 [SK4, .int .i64 0], callN FF Gl.X 80 45 [SK5, .int .i64 0], callN FF Gl.X 80 45 [SK6, .int .i64 0], callN FF Gl.X 80 45 [SK7, .int .i64 0], callN FF Gl.X 80 45 [SK8, .int .i64 0], callN FF Gl.X 80 45 [SK9, .int .i64 0]] = [some SK4, some SK5, some SK6, some SK7, some SK7, some SK9, some SK10] := by kernel_rfl
theorem st0 : Spec FF 45 [SK3, .int .i64 0] SK4 := ⟨80, (List.cons.inj bt0).1⟩
theorem st1 : Spec FF 45 [SK4, .int .i64 0] SK5 := ⟨80, (List.cons.inj (List.cons.inj bt0).2).1⟩
theorem st2 : Spec FF 45 [SK5, .int .i64 0] SK6 := ⟨80, (List.cons.inj (List.cons.inj (List.cons.inj bt0).2).2).1⟩
theorem st3 : Spec FF 45 [SK6, .int .i64 0] SK7 := ⟨80, (List.cons.inj (List.cons.inj (List.cons.inj (List.cons.inj bt0).2).2).2).1⟩
theorem st4 : Spec FF 45 [SK7, .int .i64 0] SK7 := ⟨80, (List.cons.inj (List.cons.inj (List.cons.inj (List.cons.inj (List.cons.inj bt0).2).2).2).2).1⟩
theorem st5 : Spec FF 45 [SK8, .int .i64 0] SK9 := ⟨80, (List.cons.inj (List.cons.inj (List.cons.inj (List.cons.inj (List.cons.inj (List.cons.inj bt0).2).2).2).2).2).1⟩
theorem st6 : Spec FF 45 [SK9, .int .i64 0] SK10 := ⟨80, (List.cons.inj (List.cons.inj (List.cons.inj (List.cons.inj (List.cons.inj (List.cons.inj (List.cons.inj bt0).2).2).2).2).2).2).1⟩
theorem bt7 : [callN FF Gl.X 80 45 [SK10, .int .i64 0], callN FF Gl.X 80 45 [SK11, .int .i64 0], callN FF Gl.X 80 45 [SK12, .int .i64 0], callN FF Gl.X 80 45 [SK13, .int .i64 0], callN FF Gl.X 80 45 [SK14, .int .i64 0], callN FF Gl.X 80 45 [SK15, .int .i64 0], callN FF Gl.X 80 45 [SK16, .int .i64 0]] = [some SK11, some SK12, some SK13, some SK14, some SK15, some SK16, some SK17] := by kernel_rfl
theorem st7 : Spec FF 45 [SK10, .int .i64 0] SK11 := ⟨80, (List.cons.inj bt7).1⟩
theorem st8 : Spec FF 45 [SK11, .int .i64 0] SK12 := ⟨80, (List.cons.inj (List.cons.inj bt7).2).1⟩
theorem st9 : Spec FF 45 [SK12, .int .i64 0] SK13 := ⟨80, (List.cons.inj (List.cons.inj (List.cons.inj bt7).2).2).1⟩
theorem st10 : Spec FF 45 [SK13, .int .i64 0] SK14 := ⟨80, (List.cons.inj (List.cons.inj (List.cons.inj (List.cons.inj bt7).2).2).2).1⟩
theorem st11 : Spec FF 45 [SK14, .int .i64 0] SK15 := ⟨80, (List.cons.inj (List.cons.inj (List.cons.inj (List.cons.inj (List.cons.inj bt7).2).2).2).2).1⟩
theorem st12 : Spec FF 45 [SK15, .int .i64 0] SK16 := ⟨80, (List.cons.inj (List.cons.inj (List.cons.inj (List.cons.inj (List.cons.inj (List.cons.inj bt7).2).2).2).2).2).1⟩
theorem st13 : Spec FF 45 [SK16, .int .i64 0] SK17 := ⟨80, (List.cons.inj (List.cons.inj (List.cons.inj (List.cons.inj (List.cons.inj (List.cons.inj (List.cons.inj bt7).2).2).2).2).2).2).1⟩
theorem bt14 : [callN FF Gl.X 80 45 [SK17, .int .i64 0], callN FF Gl.X 80 45 [SK18, .int .i64 0], callN FF Gl.X 80 45 [SK19, .int .i64 0], callN FF Gl.X 80 45 [SK20, .int .i64 0], callN FF Gl.X 80 45 [SK21, .int .i64 0], callN FF Gl.X 80 45 [SK22, .int .i64 0], callN FF Gl.X 80 45 [SK23, .int .i64 0]] = [some SK18, some SK19, some SK20, some SK21, some SK22, some SK23, some SK24] := by kernel_rfl
theorem st14 : Spec FF 45 [SK17, .int .i64 0] SK18 := ⟨80, (List.cons.inj bt14).1⟩
theorem st15 : Spec FF 45 [SK18, .int .i64 0] SK19 := ⟨80, (List.cons.inj (List.cons.inj bt14).2).1⟩
theorem st16 : Spec FF 45 [SK19, .int .i64 0] SK20 := ⟨80, (List.cons.inj (List.cons.inj (List.cons.inj bt14).2).2).1⟩
theorem st17 : Spec FF 45 [SK20, .int .i64 0] SK21 := ⟨80, (List.cons.inj (List.cons.inj (List.cons.inj (List.cons.inj bt14).2).2).2).1⟩
theorem st18 : Spec FF 45 [SK21, .int .i64 0] SK22 := ⟨80, (List.cons.inj (List.cons.inj (List.cons.inj (List.cons.inj (List.cons.inj bt14).2).2).2).2).1⟩
theorem st19 : Spec FF 45 [SK22, .int .i64 0] SK23 := ⟨80, (List.cons.inj (List.cons.inj (List.cons.inj (List.cons.inj (List.cons.inj (List.cons.inj bt14).2).2).2).2).2).1⟩
theorem st20 : Spec FF 45 [SK23, .int .i64 0] SK24 := ⟨80, (List.cons.inj (List.cons.inj (List.cons.inj (List.cons.inj (List.cons.inj (List.cons.inj (List.cons.inj bt14).2).2).2).2).2).2).1⟩
end Go.Proofs.Hz
