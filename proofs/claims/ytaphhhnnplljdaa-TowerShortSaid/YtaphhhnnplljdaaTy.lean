/-
  Closed facts of the types: where fields lie, how structs are built and compared.
-/
import Derived.Test.YtaphhhnnplljdaaProg
import Derived.Test.YtaphhhnnplljdaaCal
import Derived.Laws.StructEq
import Derived.KernelRfl
set_option linter.unusedSimpArgs false
set_option linter.unusedVariables false
namespace Go.Proofs.Ytaphhhnnplljdaa
open Go Go.SL
theorem fa_23_0 : ∀ b off w, (Instr.fieldAt 23 (.pointer (some ⟨b, off, none⟩)) 0).run Try.prog w = .ok (.pointer (some ⟨b, off + 0, none⟩)) w := by
  intro b off w
  simp [Instr.fieldAt, Instr.sureAddr, fieldPlace, Addr_add, Try.runUnderlying23, Try.sizeOf3, Result.andThen]
theorem fa_23_1 : ∀ b off w, (Instr.fieldAt 23 (.pointer (some ⟨b, off, none⟩)) 1).run Try.prog w = .ok (.pointer (some ⟨b, off + 1, none⟩)) w := by
  intro b off w
  simp [Instr.fieldAt, Instr.sureAddr, fieldPlace, Addr_add, Try.runUnderlying23, Try.sizeOf3, Result.andThen]
theorem fa_23_2 : ∀ b off w, (Instr.fieldAt 23 (.pointer (some ⟨b, off, none⟩)) 2).run Try.prog w = .ok (.pointer (some ⟨b, off + 2, none⟩)) w := by
  intro b off w
  simp [Instr.fieldAt, Instr.sureAddr, fieldPlace, Addr_add, Try.runUnderlying23, Try.sizeOf3, Result.andThen]
theorem fa_23_3 : ∀ b off w, (Instr.fieldAt 23 (.pointer (some ⟨b, off, none⟩)) 3).run Try.prog w = .ok (.pointer (some ⟨b, off + 3, none⟩)) w := by
  intro b off w
  simp [Instr.fieldAt, Instr.sureAddr, fieldPlace, Addr_add, Try.runUnderlying23, Try.sizeOf3, Result.andThen]
theorem fa_23_4 : ∀ b off w, (Instr.fieldAt 23 (.pointer (some ⟨b, off, none⟩)) 4).run Try.prog w = .ok (.pointer (some ⟨b, off + 4, none⟩)) w := by
  intro b off w
  simp [Instr.fieldAt, Instr.sureAddr, fieldPlace, Addr_add, Try.runUnderlying23, Try.sizeOf3, Result.andThen]
theorem fa_32_0 : ∀ b off w, (Instr.fieldAt 32 (.pointer (some ⟨b, off, none⟩)) 0).run Try.prog w = .ok (.pointer (some ⟨b, off + 0, none⟩)) w := by
  intro b off w
  simp [Instr.fieldAt, Instr.sureAddr, fieldPlace, Addr_add, Try.runUnderlying32, Try.sizeOf30, Result.andThen]
theorem fa_32_1 : ∀ b off w, (Instr.fieldAt 32 (.pointer (some ⟨b, off, none⟩)) 1).run Try.prog w = .ok (.pointer (some ⟨b, off + 1, none⟩)) w := by
  intro b off w
  simp [Instr.fieldAt, Instr.sureAddr, fieldPlace, Addr_add, Try.runUnderlying32, Try.sizeOf3, Result.andThen]
theorem fa_34_0 : ∀ b off w, (Instr.fieldAt 34 (.pointer (some ⟨b, off, none⟩)) 0).run Try.prog w = .ok (.pointer (some ⟨b, off + 0, none⟩)) w := by
  intro b off w
  simp [Instr.fieldAt, Instr.sureAddr, fieldPlace, Addr_add, Try.runUnderlying34, Try.sizeOf23, Result.andThen]
theorem fa_34_1 : ∀ b off w, (Instr.fieldAt 34 (.pointer (some ⟨b, off, none⟩)) 1).run Try.prog w = .ok (.pointer (some ⟨b, off + 5, none⟩)) w := by
  intro b off w
  simp [Instr.fieldAt, Instr.sureAddr, fieldPlace, Addr_add, Try.runUnderlying34, Try.sizeOf3, Result.andThen]
theorem fa_34_2 : ∀ b off w, (Instr.fieldAt 34 (.pointer (some ⟨b, off, none⟩)) 2).run Try.prog w = .ok (.pointer (some ⟨b, off + 6, none⟩)) w := by
  intro b off w
  simp [Instr.fieldAt, Instr.sureAddr, fieldPlace, Addr_add, Try.runUnderlying34, Try.sizeOf32, Result.andThen]
theorem fa_34_3 : ∀ b off w, (Instr.fieldAt 34 (.pointer (some ⟨b, off, none⟩)) 3).run Try.prog w = .ok (.pointer (some ⟨b, off + 8, none⟩)) w := by
  intro b off w
  simp [Instr.fieldAt, Instr.sureAddr, fieldPlace, Addr_add, Try.runUnderlying34, Try.sizeOf3, Result.andThen]
theorem fa_34_4 : ∀ b off w, (Instr.fieldAt 34 (.pointer (some ⟨b, off, none⟩)) 4).run Try.prog w = .ok (.pointer (some ⟨b, off + 9, none⟩)) w := by
  intro b off w
  simp [Instr.fieldAt, Instr.sureAddr, fieldPlace, Addr_add, Try.runUnderlying34, Try.sizeOf3, Result.andThen]
theorem fa_40_0 : ∀ b off w, (Instr.fieldAt 40 (.pointer (some ⟨b, off, none⟩)) 0).run Try.prog w = .ok (.pointer (some ⟨b, off + 0, none⟩)) w := by
  intro b off w
  simp [Instr.fieldAt, Instr.sureAddr, fieldPlace, Addr_add, Try.runUnderlying40, Try.sizeOf38, Result.andThen]
theorem fa_43_0 : ∀ b off w, (Instr.fieldAt 43 (.pointer (some ⟨b, off, none⟩)) 0).run Try.prog w = .ok (.pointer (some ⟨b, off + 0, none⟩)) w := by
  intro b off w
  simp [Instr.fieldAt, Instr.sureAddr, fieldPlace, Addr_add, Try.runUnderlying43, Try.sizeOf3, Result.andThen]
theorem fa_43_1 : ∀ b off w, (Instr.fieldAt 43 (.pointer (some ⟨b, off, none⟩)) 1).run Try.prog w = .ok (.pointer (some ⟨b, off + 1, none⟩)) w := by
  intro b off w
  simp [Instr.fieldAt, Instr.sureAddr, fieldPlace, Addr_add, Try.runUnderlying43, Try.sizeOf3, Result.andThen]
theorem fa_45_0 : ∀ b off w, (Instr.fieldAt 45 (.pointer (some ⟨b, off, none⟩)) 0).run Try.prog w = .ok (.pointer (some ⟨b, off + 0, none⟩)) w := by
  intro b off w
  simp [Instr.fieldAt, Instr.sureAddr, fieldPlace, Addr_add, Try.runUnderlying45, Try.sizeOf41, Result.andThen]
theorem fa_45_1 : ∀ b off w, (Instr.fieldAt 45 (.pointer (some ⟨b, off, none⟩)) 1).run Try.prog w = .ok (.pointer (some ⟨b, off + 1, none⟩)) w := by
  intro b off w
  simp [Instr.fieldAt, Instr.sureAddr, fieldPlace, Addr_add, Try.runUnderlying45, Try.sizeOf3, Result.andThen]
theorem fa_45_2 : ∀ b off w, (Instr.fieldAt 45 (.pointer (some ⟨b, off, none⟩)) 2).run Try.prog w = .ok (.pointer (some ⟨b, off + 2, none⟩)) w := by
  intro b off w
  simp [Instr.fieldAt, Instr.sureAddr, fieldPlace, Addr_add, Try.runUnderlying45, Try.sizeOf4, Result.andThen]
theorem fa_47_0 : ∀ b off w, (Instr.fieldAt 47 (.pointer (some ⟨b, off, none⟩)) 0).run Try.prog w = .ok (.pointer (some ⟨b, off + 0, none⟩)) w := by
  intro b off w
  simp [Instr.fieldAt, Instr.sureAddr, fieldPlace, Addr_add, Try.runUnderlying47, Try.sizeOf3, Result.andThen]
theorem fa_47_1 : ∀ b off w, (Instr.fieldAt 47 (.pointer (some ⟨b, off, none⟩)) 1).run Try.prog w = .ok (.pointer (some ⟨b, off + 1, none⟩)) w := by
  intro b off w
  simp [Instr.fieldAt, Instr.sureAddr, fieldPlace, Addr_add, Try.runUnderlying47, Try.sizeOf41, Result.andThen]
theorem fa_47_2 : ∀ b off w, (Instr.fieldAt 47 (.pointer (some ⟨b, off, none⟩)) 2).run Try.prog w = .ok (.pointer (some ⟨b, off + 2, none⟩)) w := by
  intro b off w
  simp [Instr.fieldAt, Instr.sureAddr, fieldPlace, Addr_add, Try.runUnderlying47, Try.sizeOf43, Result.andThen]
theorem fa_47_3 : ∀ b off w, (Instr.fieldAt 47 (.pointer (some ⟨b, off, none⟩)) 3).run Try.prog w = .ok (.pointer (some ⟨b, off + 4, none⟩)) w := by
  intro b off w
  simp [Instr.fieldAt, Instr.sureAddr, fieldPlace, Addr_add, Try.runUnderlying47, Try.sizeOf45, Result.andThen]
theorem fa_59_0 : ∀ b off w, (Instr.fieldAt 59 (.pointer (some ⟨b, off, none⟩)) 0).run Try.prog w = .ok (.pointer (some ⟨b, off + 0, none⟩)) w := by
  intro b off w
  simp [Instr.fieldAt, Instr.sureAddr, fieldPlace, Addr_add, Try.runUnderlying59, Try.sizeOf3, Result.andThen]
theorem fa_59_1 : ∀ b off w, (Instr.fieldAt 59 (.pointer (some ⟨b, off, none⟩)) 1).run Try.prog w = .ok (.pointer (some ⟨b, off + 1, none⟩)) w := by
  intro b off w
  simp [Instr.fieldAt, Instr.sureAddr, fieldPlace, Addr_add, Try.runUnderlying59, Try.sizeOf3, Result.andThen]
theorem fa_59_2 : ∀ b off w, (Instr.fieldAt 59 (.pointer (some ⟨b, off, none⟩)) 2).run Try.prog w = .ok (.pointer (some ⟨b, off + 2, none⟩)) w := by
  intro b off w
  simp [Instr.fieldAt, Instr.sureAddr, fieldPlace, Addr_add, Try.runUnderlying59, Try.sizeOf3, Result.andThen]
theorem fa_59_3 : ∀ b off w, (Instr.fieldAt 59 (.pointer (some ⟨b, off, none⟩)) 3).run Try.prog w = .ok (.pointer (some ⟨b, off + 3, none⟩)) w := by
  intro b off w
  simp [Instr.fieldAt, Instr.sureAddr, fieldPlace, Addr_add, Try.runUnderlying59, Try.sizeOf3, Result.andThen]
theorem fa_59_4 : ∀ b off w, (Instr.fieldAt 59 (.pointer (some ⟨b, off, none⟩)) 4).run Try.prog w = .ok (.pointer (some ⟨b, off + 4, none⟩)) w := by
  intro b off w
  simp [Instr.fieldAt, Instr.sureAddr, fieldPlace, Addr_add, Try.runUnderlying59, Try.sizeOf3, Result.andThen]
theorem fa_62_0 : ∀ b off w, (Instr.fieldAt 62 (.pointer (some ⟨b, off, none⟩)) 0).run Try.prog w = .ok (.pointer (some ⟨b, off + 0, none⟩)) w := by
  intro b off w
  simp [Instr.fieldAt, Instr.sureAddr, fieldPlace, Addr_add, Try.runUnderlying62, Try.sizeOf3, Result.andThen]
theorem fa_62_1 : ∀ b off w, (Instr.fieldAt 62 (.pointer (some ⟨b, off, none⟩)) 1).run Try.prog w = .ok (.pointer (some ⟨b, off + 1, none⟩)) w := by
  intro b off w
  simp [Instr.fieldAt, Instr.sureAddr, fieldPlace, Addr_add, Try.runUnderlying62, Try.sizeOf3, Result.andThen]
theorem fa_63_0 : ∀ b off w, (Instr.fieldAt 63 (.pointer (some ⟨b, off, none⟩)) 0).run Try.prog w = .ok (.pointer (some ⟨b, off + 0, none⟩)) w := by
  intro b off w
  simp [Instr.fieldAt, Instr.sureAddr, fieldPlace, Addr_add, Try.runUnderlying63, Try.sizeOf3, Result.andThen]
theorem fa_74_0 : ∀ b off w, (Instr.fieldAt 74 (.pointer (some ⟨b, off, none⟩)) 0).run Try.prog w = .ok (.pointer (some ⟨b, off + 0, none⟩)) w := by
  intro b off w
  simp [Instr.fieldAt, Instr.sureAddr, fieldPlace, Addr_add, Try.runUnderlying74, Try.sizeOf3, Result.andThen]
theorem fa_74_1 : ∀ b off w, (Instr.fieldAt 74 (.pointer (some ⟨b, off, none⟩)) 1).run Try.prog w = .ok (.pointer (some ⟨b, off + 1, none⟩)) w := by
  intro b off w
  simp [Instr.fieldAt, Instr.sureAddr, fieldPlace, Addr_add, Try.runUnderlying74, Try.sizeOf41, Result.andThen]
theorem fa_74_2 : ∀ b off w, (Instr.fieldAt 74 (.pointer (some ⟨b, off, none⟩)) 2).run Try.prog w = .ok (.pointer (some ⟨b, off + 2, none⟩)) w := by
  intro b off w
  simp [Instr.fieldAt, Instr.sureAddr, fieldPlace, Addr_add, Try.runUnderlying74, Try.sizeOf41, Result.andThen]
theorem fa_74_3 : ∀ b off w, (Instr.fieldAt 74 (.pointer (some ⟨b, off, none⟩)) 3).run Try.prog w = .ok (.pointer (some ⟨b, off + 3, none⟩)) w := by
  intro b off w
  simp [Instr.fieldAt, Instr.sureAddr, fieldPlace, Addr_add, Try.runUnderlying74, Try.sizeOf4, Result.andThen]
theorem fa_79_0 : ∀ b off w, (Instr.fieldAt 79 (.pointer (some ⟨b, off, none⟩)) 0).run Try.prog w = .ok (.pointer (some ⟨b, off + 0, none⟩)) w := by
  intro b off w
  simp [Instr.fieldAt, Instr.sureAddr, fieldPlace, Addr_add, Try.runUnderlying79, Try.sizeOf3, Result.andThen]
theorem fa_79_1 : ∀ b off w, (Instr.fieldAt 79 (.pointer (some ⟨b, off, none⟩)) 1).run Try.prog w = .ok (.pointer (some ⟨b, off + 1, none⟩)) w := by
  intro b off w
  simp [Instr.fieldAt, Instr.sureAddr, fieldPlace, Addr_add, Try.runUnderlying79, Try.sizeOf3, Result.andThen]
theorem fa_79_2 : ∀ b off w, (Instr.fieldAt 79 (.pointer (some ⟨b, off, none⟩)) 2).run Try.prog w = .ok (.pointer (some ⟨b, off + 2, none⟩)) w := by
  intro b off w
  simp [Instr.fieldAt, Instr.sureAddr, fieldPlace, Addr_add, Try.runUnderlying79, Try.sizeOf3, Result.andThen]
theorem fa_91_0 : ∀ b off w, (Instr.fieldAt 91 (.pointer (some ⟨b, off, none⟩)) 0).run Try.prog w = .ok (.pointer (some ⟨b, off + 0, none⟩)) w := by
  intro b off w
  simp [Instr.fieldAt, Instr.sureAddr, fieldPlace, Addr_add, Try.runUnderlying91, Try.sizeOf79, Result.andThen]
theorem fa_91_1 : ∀ b off w, (Instr.fieldAt 91 (.pointer (some ⟨b, off, none⟩)) 1).run Try.prog w = .ok (.pointer (some ⟨b, off + 3, none⟩)) w := by
  intro b off w
  simp [Instr.fieldAt, Instr.sureAddr, fieldPlace, Addr_add, Try.runUnderlying91, Try.sizeOf3, Result.andThen]
theorem fa_98_0 : ∀ b off w, (Instr.fieldAt 98 (.pointer (some ⟨b, off, none⟩)) 0).run Try.prog w = .ok (.pointer (some ⟨b, off + 0, none⟩)) w := by
  intro b off w
  simp [Instr.fieldAt, Instr.sureAddr, fieldPlace, Addr_add, Try.runUnderlying98, Try.sizeOf3, Result.andThen]
theorem fa_98_1 : ∀ b off w, (Instr.fieldAt 98 (.pointer (some ⟨b, off, none⟩)) 1).run Try.prog w = .ok (.pointer (some ⟨b, off + 1, none⟩)) w := by
  intro b off w
  simp [Instr.fieldAt, Instr.sureAddr, fieldPlace, Addr_add, Try.runUnderlying98, Try.sizeOf41, Result.andThen]
theorem fa_98_2 : ∀ b off w, (Instr.fieldAt 98 (.pointer (some ⟨b, off, none⟩)) 2).run Try.prog w = .ok (.pointer (some ⟨b, off + 2, none⟩)) w := by
  intro b off w
  simp [Instr.fieldAt, Instr.sureAddr, fieldPlace, Addr_add, Try.runUnderlying98, Try.sizeOf3, Result.andThen]
theorem fa_98_3 : ∀ b off w, (Instr.fieldAt 98 (.pointer (some ⟨b, off, none⟩)) 3).run Try.prog w = .ok (.pointer (some ⟨b, off + 3, none⟩)) w := by
  intro b off w
  simp [Instr.fieldAt, Instr.sureAddr, fieldPlace, Addr_add, Try.runUnderlying98, Try.sizeOf3, Result.andThen]
theorem fa_117_0 : ∀ b off w, (Instr.fieldAt 117 (.pointer (some ⟨b, off, none⟩)) 0).run Try.prog w = .ok (.pointer (some ⟨b, off + 0, none⟩)) w := by
  intro b off w
  simp [Instr.fieldAt, Instr.sureAddr, fieldPlace, Addr_add, Try.runUnderlying117, Try.sizeOf23, Result.andThen]
theorem fa_117_1 : ∀ b off w, (Instr.fieldAt 117 (.pointer (some ⟨b, off, none⟩)) 1).run Try.prog w = .ok (.pointer (some ⟨b, off + 5, none⟩)) w := by
  intro b off w
  simp [Instr.fieldAt, Instr.sureAddr, fieldPlace, Addr_add, Try.runUnderlying117, Try.sizeOf3, Result.andThen]
theorem fa_117_2 : ∀ b off w, (Instr.fieldAt 117 (.pointer (some ⟨b, off, none⟩)) 2).run Try.prog w = .ok (.pointer (some ⟨b, off + 6, none⟩)) w := by
  intro b off w
  simp [Instr.fieldAt, Instr.sureAddr, fieldPlace, Addr_add, Try.runUnderlying117, Try.sizeOf53, Result.andThen]
theorem fa_117_3 : ∀ b off w, (Instr.fieldAt 117 (.pointer (some ⟨b, off, none⟩)) 3).run Try.prog w = .ok (.pointer (some ⟨b, off + 7, none⟩)) w := by
  intro b off w
  simp [Instr.fieldAt, Instr.sureAddr, fieldPlace, Addr_add, Try.runUnderlying117, Try.sizeOf43, Result.andThen]
theorem fa_117_4 : ∀ b off w, (Instr.fieldAt 117 (.pointer (some ⟨b, off, none⟩)) 4).run Try.prog w = .ok (.pointer (some ⟨b, off + 9, none⟩)) w := by
  intro b off w
  simp [Instr.fieldAt, Instr.sureAddr, fieldPlace, Addr_add, Try.runUnderlying117, Try.sizeOf3, Result.andThen]
theorem fa_121_0 : ∀ b off w, (Instr.fieldAt 121 (.pointer (some ⟨b, off, none⟩)) 0).run Try.prog w = .ok (.pointer (some ⟨b, off + 0, none⟩)) w := by
  intro b off w
  simp [Instr.fieldAt, Instr.sureAddr, fieldPlace, Addr_add, Try.runUnderlying121, Try.sizeOf118, Result.andThen]
theorem fa_128_0 : ∀ b off w, (Instr.fieldAt 128 (.pointer (some ⟨b, off, none⟩)) 0).run Try.prog w = .ok (.pointer (some ⟨b, off + 0, none⟩)) w := by
  intro b off w
  simp [Instr.fieldAt, Instr.sureAddr, fieldPlace, Addr_add, Try.runUnderlying128, Try.sizeOf4, Result.andThen]
theorem fa_128_1 : ∀ b off w, (Instr.fieldAt 128 (.pointer (some ⟨b, off, none⟩)) 1).run Try.prog w = .ok (.pointer (some ⟨b, off + 1, none⟩)) w := by
  intro b off w
  simp [Instr.fieldAt, Instr.sureAddr, fieldPlace, Addr_add, Try.runUnderlying128, Try.sizeOf3, Result.andThen]
theorem fa_128_2 : ∀ b off w, (Instr.fieldAt 128 (.pointer (some ⟨b, off, none⟩)) 2).run Try.prog w = .ok (.pointer (some ⟨b, off + 2, none⟩)) w := by
  intro b off w
  simp [Instr.fieldAt, Instr.sureAddr, fieldPlace, Addr_add, Try.runUnderlying128, Try.sizeOf3, Result.andThen]
theorem fa_134_0 : ∀ b off w, (Instr.fieldAt 134 (.pointer (some ⟨b, off, none⟩)) 0).run Try.prog w = .ok (.pointer (some ⟨b, off + 0, none⟩)) w := by
  intro b off w
  simp [Instr.fieldAt, Instr.sureAddr, fieldPlace, Addr_add, Try.runUnderlying134, Try.sizeOf52, Result.andThen]
theorem fa_134_1 : ∀ b off w, (Instr.fieldAt 134 (.pointer (some ⟨b, off, none⟩)) 1).run Try.prog w = .ok (.pointer (some ⟨b, off + 1, none⟩)) w := by
  intro b off w
  simp [Instr.fieldAt, Instr.sureAddr, fieldPlace, Addr_add, Try.runUnderlying134, Try.sizeOf41, Result.andThen]
theorem fa_134_2 : ∀ b off w, (Instr.fieldAt 134 (.pointer (some ⟨b, off, none⟩)) 2).run Try.prog w = .ok (.pointer (some ⟨b, off + 2, none⟩)) w := by
  intro b off w
  simp [Instr.fieldAt, Instr.sureAddr, fieldPlace, Addr_add, Try.runUnderlying134, Try.sizeOf41, Result.andThen]
theorem fa_138_0 : ∀ b off w, (Instr.fieldAt 138 (.pointer (some ⟨b, off, none⟩)) 0).run Try.prog w = .ok (.pointer (some ⟨b, off + 0, none⟩)) w := by
  intro b off w
  simp [Instr.fieldAt, Instr.sureAddr, fieldPlace, Addr_add, Try.runUnderlying138, Try.sizeOf26, Result.andThen]
theorem fa_138_1 : ∀ b off w, (Instr.fieldAt 138 (.pointer (some ⟨b, off, none⟩)) 1).run Try.prog w = .ok (.pointer (some ⟨b, off + 1, none⟩)) w := by
  intro b off w
  simp [Instr.fieldAt, Instr.sureAddr, fieldPlace, Addr_add, Try.runUnderlying138, Try.sizeOf3, Result.andThen]
theorem fa_138_2 : ∀ b off w, (Instr.fieldAt 138 (.pointer (some ⟨b, off, none⟩)) 2).run Try.prog w = .ok (.pointer (some ⟨b, off + 2, none⟩)) w := by
  intro b off w
  simp [Instr.fieldAt, Instr.sureAddr, fieldPlace, Addr_add, Try.runUnderlying138, Try.sizeOf41, Result.andThen]
theorem fa_138_3 : ∀ b off w, (Instr.fieldAt 138 (.pointer (some ⟨b, off, none⟩)) 3).run Try.prog w = .ok (.pointer (some ⟨b, off + 3, none⟩)) w := by
  intro b off w
  simp [Instr.fieldAt, Instr.sureAddr, fieldPlace, Addr_add, Try.runUnderlying138, Try.sizeOf4, Result.andThen]
theorem fa_138_4 : ∀ b off w, (Instr.fieldAt 138 (.pointer (some ⟨b, off, none⟩)) 4).run Try.prog w = .ok (.pointer (some ⟨b, off + 4, none⟩)) w := by
  intro b off w
  simp [Instr.fieldAt, Instr.sureAddr, fieldPlace, Addr_add, Try.runUnderlying138, Try.sizeOf75, Result.andThen]
theorem fa_138_5 : ∀ b off w, (Instr.fieldAt 138 (.pointer (some ⟨b, off, none⟩)) 5).run Try.prog w = .ok (.pointer (some ⟨b, off + 5, none⟩)) w := by
  intro b off w
  simp [Instr.fieldAt, Instr.sureAddr, fieldPlace, Addr_add, Try.runUnderlying138, Try.sizeOf4, Result.andThen]
theorem fa_143_0 : ∀ b off w, (Instr.fieldAt 143 (.pointer (some ⟨b, off, none⟩)) 0).run Try.prog w = .ok (.pointer (some ⟨b, off + 0, none⟩)) w := by
  intro b off w
  simp [Instr.fieldAt, Instr.sureAddr, fieldPlace, Addr_add, Try.runUnderlying143, Try.sizeOf26, Result.andThen]
theorem fa_143_1 : ∀ b off w, (Instr.fieldAt 143 (.pointer (some ⟨b, off, none⟩)) 1).run Try.prog w = .ok (.pointer (some ⟨b, off + 1, none⟩)) w := by
  intro b off w
  simp [Instr.fieldAt, Instr.sureAddr, fieldPlace, Addr_add, Try.runUnderlying143, Try.sizeOf91, Result.andThen]
theorem fa_143_2 : ∀ b off w, (Instr.fieldAt 143 (.pointer (some ⟨b, off, none⟩)) 2).run Try.prog w = .ok (.pointer (some ⟨b, off + 5, none⟩)) w := by
  intro b off w
  simp [Instr.fieldAt, Instr.sureAddr, fieldPlace, Addr_add, Try.runUnderlying143, Try.sizeOf3, Result.andThen]
theorem fa_143_3 : ∀ b off w, (Instr.fieldAt 143 (.pointer (some ⟨b, off, none⟩)) 3).run Try.prog w = .ok (.pointer (some ⟨b, off + 6, none⟩)) w := by
  intro b off w
  simp [Instr.fieldAt, Instr.sureAddr, fieldPlace, Addr_add, Try.runUnderlying143, Try.sizeOf41, Result.andThen]
theorem fa_143_4 : ∀ b off w, (Instr.fieldAt 143 (.pointer (some ⟨b, off, none⟩)) 4).run Try.prog w = .ok (.pointer (some ⟨b, off + 7, none⟩)) w := by
  intro b off w
  simp [Instr.fieldAt, Instr.sureAddr, fieldPlace, Addr_add, Try.runUnderlying143, Try.sizeOf4, Result.andThen]
theorem fa_143_5 : ∀ b off w, (Instr.fieldAt 143 (.pointer (some ⟨b, off, none⟩)) 5).run Try.prog w = .ok (.pointer (some ⟨b, off + 8, none⟩)) w := by
  intro b off w
  simp [Instr.fieldAt, Instr.sureAddr, fieldPlace, Addr_add, Try.runUnderlying143, Try.sizeOf3, Result.andThen]
theorem fa_143_6 : ∀ b off w, (Instr.fieldAt 143 (.pointer (some ⟨b, off, none⟩)) 6).run Try.prog w = .ok (.pointer (some ⟨b, off + 9, none⟩)) w := by
  intro b off w
  simp [Instr.fieldAt, Instr.sureAddr, fieldPlace, Addr_add, Try.runUnderlying143, Try.sizeOf45, Result.andThen]
theorem fa_143_7 : ∀ b off w, (Instr.fieldAt 143 (.pointer (some ⟨b, off, none⟩)) 7).run Try.prog w = .ok (.pointer (some ⟨b, off + 12, none⟩)) w := by
  intro b off w
  simp [Instr.fieldAt, Instr.sureAddr, fieldPlace, Addr_add, Try.runUnderlying143, Try.sizeOf45, Result.andThen]
theorem fa_143_8 : ∀ b off w, (Instr.fieldAt 143 (.pointer (some ⟨b, off, none⟩)) 8).run Try.prog w = .ok (.pointer (some ⟨b, off + 15, none⟩)) w := by
  intro b off w
  simp [Instr.fieldAt, Instr.sureAddr, fieldPlace, Addr_add, Try.runUnderlying143, Try.sizeOf45, Result.andThen]
theorem fa_143_9 : ∀ b off w, (Instr.fieldAt 143 (.pointer (some ⟨b, off, none⟩)) 9).run Try.prog w = .ok (.pointer (some ⟨b, off + 18, none⟩)) w := by
  intro b off w
  simp [Instr.fieldAt, Instr.sureAddr, fieldPlace, Addr_add, Try.runUnderlying143, Try.sizeOf45, Result.andThen]
theorem fa_143_10 : ∀ b off w, (Instr.fieldAt 143 (.pointer (some ⟨b, off, none⟩)) 10).run Try.prog w = .ok (.pointer (some ⟨b, off + 21, none⟩)) w := by
  intro b off w
  simp [Instr.fieldAt, Instr.sureAddr, fieldPlace, Addr_add, Try.runUnderlying143, Try.sizeOf43, Result.andThen]
theorem fa_143_11 : ∀ b off w, (Instr.fieldAt 143 (.pointer (some ⟨b, off, none⟩)) 11).run Try.prog w = .ok (.pointer (some ⟨b, off + 23, none⟩)) w := by
  intro b off w
  simp [Instr.fieldAt, Instr.sureAddr, fieldPlace, Addr_add, Try.runUnderlying143, Try.sizeOf4, Result.andThen]
theorem fa_144_0 : ∀ b off w, (Instr.fieldAt 144 (.pointer (some ⟨b, off, none⟩)) 0).run Try.prog w = .ok (.pointer (some ⟨b, off + 0, none⟩)) w := by
  intro b off w
  simp [Instr.fieldAt, Instr.sureAddr, fieldPlace, Addr_add, Try.runUnderlying144, Try.sizeOf4, Result.andThen]
theorem fa_144_1 : ∀ b off w, (Instr.fieldAt 144 (.pointer (some ⟨b, off, none⟩)) 1).run Try.prog w = .ok (.pointer (some ⟨b, off + 1, none⟩)) w := by
  intro b off w
  simp [Instr.fieldAt, Instr.sureAddr, fieldPlace, Addr_add, Try.runUnderlying144, Try.sizeOf3, Result.andThen]
theorem fa_144_2 : ∀ b off w, (Instr.fieldAt 144 (.pointer (some ⟨b, off, none⟩)) 2).run Try.prog w = .ok (.pointer (some ⟨b, off + 2, none⟩)) w := by
  intro b off w
  simp [Instr.fieldAt, Instr.sureAddr, fieldPlace, Addr_add, Try.runUnderlying144, Try.sizeOf3, Result.andThen]
theorem fa_151_0 : ∀ b off w, (Instr.fieldAt 151 (.pointer (some ⟨b, off, none⟩)) 0).run Try.prog w = .ok (.pointer (some ⟨b, off + 0, none⟩)) w := by
  intro b off w
  simp [Instr.fieldAt, Instr.sureAddr, fieldPlace, Addr_add, Try.runUnderlying151, Try.sizeOf26, Result.andThen]
theorem fa_151_1 : ∀ b off w, (Instr.fieldAt 151 (.pointer (some ⟨b, off, none⟩)) 1).run Try.prog w = .ok (.pointer (some ⟨b, off + 1, none⟩)) w := by
  intro b off w
  simp [Instr.fieldAt, Instr.sureAddr, fieldPlace, Addr_add, Try.runUnderlying151, Try.sizeOf41, Result.andThen]
theorem fa_151_2 : ∀ b off w, (Instr.fieldAt 151 (.pointer (some ⟨b, off, none⟩)) 2).run Try.prog w = .ok (.pointer (some ⟨b, off + 2, none⟩)) w := by
  intro b off w
  simp [Instr.fieldAt, Instr.sureAddr, fieldPlace, Addr_add, Try.runUnderlying151, Try.sizeOf149, Result.andThen]
theorem fa_151_3 : ∀ b off w, (Instr.fieldAt 151 (.pointer (some ⟨b, off, none⟩)) 3).run Try.prog w = .ok (.pointer (some ⟨b, off + 3, none⟩)) w := by
  intro b off w
  simp [Instr.fieldAt, Instr.sureAddr, fieldPlace, Addr_add, Try.runUnderlying151, Try.sizeOf3, Result.andThen]
theorem fa_163_0 : ∀ b off w, (Instr.fieldAt 163 (.pointer (some ⟨b, off, none⟩)) 0).run Try.prog w = .ok (.pointer (some ⟨b, off + 0, none⟩)) w := by
  intro b off w
  simp [Instr.fieldAt, Instr.sureAddr, fieldPlace, Addr_add, Try.runUnderlying163, Try.sizeOf161, Result.andThen]
theorem fa_163_1 : ∀ b off w, (Instr.fieldAt 163 (.pointer (some ⟨b, off, none⟩)) 1).run Try.prog w = .ok (.pointer (some ⟨b, off + 1, none⟩)) w := by
  intro b off w
  simp [Instr.fieldAt, Instr.sureAddr, fieldPlace, Addr_add, Try.runUnderlying163, Try.sizeOf59, Result.andThen]
theorem fa_165_0 : ∀ b off w, (Instr.fieldAt 165 (.pointer (some ⟨b, off, none⟩)) 0).run Try.prog w = .ok (.pointer (some ⟨b, off + 0, none⟩)) w := by
  intro b off w
  simp [Instr.fieldAt, Instr.sureAddr, fieldPlace, Addr_add, Try.runUnderlying165, Try.sizeOf79, Result.andThen]
theorem fa_165_1 : ∀ b off w, (Instr.fieldAt 165 (.pointer (some ⟨b, off, none⟩)) 1).run Try.prog w = .ok (.pointer (some ⟨b, off + 3, none⟩)) w := by
  intro b off w
  simp [Instr.fieldAt, Instr.sureAddr, fieldPlace, Addr_add, Try.runUnderlying165, Try.sizeOf41, Result.andThen]
theorem fa_188_0 : ∀ b off w, (Instr.fieldAt 188 (.pointer (some ⟨b, off, none⟩)) 0).run Try.prog w = .ok (.pointer (some ⟨b, off + 0, none⟩)) w := by
  intro b off w
  simp [Instr.fieldAt, Instr.sureAddr, fieldPlace, Addr_add, Try.runUnderlying188, Try.sizeOf3, Result.andThen]
theorem fa_188_1 : ∀ b off w, (Instr.fieldAt 188 (.pointer (some ⟨b, off, none⟩)) 1).run Try.prog w = .ok (.pointer (some ⟨b, off + 1, none⟩)) w := by
  intro b off w
  simp [Instr.fieldAt, Instr.sureAddr, fieldPlace, Addr_add, Try.runUnderlying188, Try.sizeOf3, Result.andThen]
theorem fd_23_0 {cs : Array Value} {v : Value} (h : cs[0]? = some v) : ∀ w, (Instr.field 23 (.agg cs) 0).run Try.prog w = .ok v w := by
  intro w
  simp [Instr.field, part, asAgg, Try.runUnderlying23, Try.isAgg3, h, Result.andThen]
theorem fd_23_3 {cs : Array Value} {v : Value} (h : cs[3]? = some v) : ∀ w, (Instr.field 23 (.agg cs) 3).run Try.prog w = .ok v w := by
  intro w
  simp [Instr.field, part, asAgg, Try.runUnderlying23, Try.isAgg3, h, Result.andThen]
theorem fd_43_0 {cs : Array Value} {v : Value} (h : cs[0]? = some v) : ∀ w, (Instr.field 43 (.agg cs) 0).run Try.prog w = .ok v w := by
  intro w
  simp [Instr.field, part, asAgg, Try.runUnderlying43, Try.isAgg3, h, Result.andThen]
theorem fd_45_0 {cs : Array Value} {v : Value} (h : cs[0]? = some v) : ∀ w, (Instr.field 45 (.agg cs) 0).run Try.prog w = .ok v w := by
  intro w
  simp [Instr.field, part, asAgg, Try.runUnderlying45, Try.isAgg41, h, Result.andThen]
theorem fd_59_0 {cs : Array Value} {v : Value} (h : cs[0]? = some v) : ∀ w, (Instr.field 59 (.agg cs) 0).run Try.prog w = .ok v w := by
  intro w
  simp [Instr.field, part, asAgg, Try.runUnderlying59, Try.isAgg3, h, Result.andThen]
theorem fd_91_0 {cs : Array Value} {vs : Array Value} (h : cs.extract 0 (0 + 3) = vs) : ∀ w, (Instr.field 91 (.agg cs) 0).run Try.prog w = .ok (.agg vs) w := by
  intro w
  subst h
  simp [Instr.field, part, asAgg, Try.runUnderlying91, Try.isAgg79, Try.sizeOf79, Result.andThen]
theorem fd_128_0 {cs : Array Value} {v : Value} (h : cs[0]? = some v) : ∀ w, (Instr.field 128 (.agg cs) 0).run Try.prog w = .ok v w := by
  intro w
  simp [Instr.field, part, asAgg, Try.runUnderlying128, Try.isAgg4, h, Result.andThen]
theorem fd_144_1 {cs : Array Value} {v : Value} (h : cs[1]? = some v) : ∀ w, (Instr.field 144 (.agg cs) 1).run Try.prog w = .ok v w := by
  intro w
  simp [Instr.field, part, asAgg, Try.runUnderlying144, Try.isAgg3, h, Result.andThen]
theorem mki_35 : ∀ w v, (Instr.makeInterface 35 v).run Try.prog w = .ok (.iface 35 v) w := by
  intro w v
  simp [Instr.makeInterface, Try.runUnderlying35, Result.andThen]
theorem bld_23 {ps : List (Nat × Value)} {cs : List Value} (h : fillL (fun i => ([(0, 1), (1, 1), (2, 1), (3, 1), (4, 1)] : List (Nat × Nat))[i]?) ((Try.t23.zero.getD undef).cells).toList ps = some cs) : ∀ w, (Instr.build 23 ps.toArray).run Try.prog w = .ok (.agg cs.toArray) w := by
  intro w
  have h := fill_list _ _ _ _ h
  have hz : (zeroValue 23).run Try.prog w = .ok (Try.t23.zero.getD undef) w := by first | exact Try.zeroValue23 w | (rw [Try.zeroValue23]; rfl)
  simp [Instr.build, hz, Try.runUnderlying23, Try.sizeOf3, Result.andThen, h]
theorem bld_34 {ps : List (Nat × Value)} {cs : List Value} (h : fillL (fun i => ([(0, 5), (5, 1), (6, 2), (8, 1), (9, 1)] : List (Nat × Nat))[i]?) ((Try.t34.zero.getD undef).cells).toList ps = some cs) : ∀ w, (Instr.build 34 ps.toArray).run Try.prog w = .ok (.agg cs.toArray) w := by
  intro w
  have h := fill_list _ _ _ _ h
  have hz : (zeroValue 34).run Try.prog w = .ok (Try.t34.zero.getD undef) w := by first | exact Try.zeroValue34 w | (rw [Try.zeroValue34]; rfl)
  simp [Instr.build, hz, Try.runUnderlying34, Try.sizeOf23, Try.sizeOf3, Try.sizeOf32, Result.andThen, h]
theorem bld_40 {ps : List (Nat × Value)} {cs : List Value} (h : fillL (fun i => ([(0, 1)] : List (Nat × Nat))[i]?) ((Try.t40.zero.getD undef).cells).toList ps = some cs) : ∀ w, (Instr.build 40 ps.toArray).run Try.prog w = .ok (.agg cs.toArray) w := by
  intro w
  have h := fill_list _ _ _ _ h
  have hz : (zeroValue 40).run Try.prog w = .ok (Try.t40.zero.getD undef) w := by first | exact Try.zeroValue40 w | (rw [Try.zeroValue40]; rfl)
  simp [Instr.build, hz, Try.runUnderlying40, Try.sizeOf38, Result.andThen, h]
theorem bld_43 {ps : List (Nat × Value)} {cs : List Value} (h : fillL (fun i => ([(0, 1), (1, 1)] : List (Nat × Nat))[i]?) ((Try.t43.zero.getD undef).cells).toList ps = some cs) : ∀ w, (Instr.build 43 ps.toArray).run Try.prog w = .ok (.agg cs.toArray) w := by
  intro w
  have h := fill_list _ _ _ _ h
  have hz : (zeroValue 43).run Try.prog w = .ok (Try.t43.zero.getD undef) w := by first | exact Try.zeroValue43 w | (rw [Try.zeroValue43]; rfl)
  simp [Instr.build, hz, Try.runUnderlying43, Try.sizeOf3, Result.andThen, h]
theorem bld_45 {ps : List (Nat × Value)} {cs : List Value} (h : fillL (fun i => ([(0, 1), (1, 1), (2, 1)] : List (Nat × Nat))[i]?) ((Try.t45.zero.getD undef).cells).toList ps = some cs) : ∀ w, (Instr.build 45 ps.toArray).run Try.prog w = .ok (.agg cs.toArray) w := by
  intro w
  have h := fill_list _ _ _ _ h
  have hz : (zeroValue 45).run Try.prog w = .ok (Try.t45.zero.getD undef) w := by first | exact Try.zeroValue45 w | (rw [Try.zeroValue45]; rfl)
  simp [Instr.build, hz, Try.runUnderlying45, Try.sizeOf3, Try.sizeOf4, Try.sizeOf41, Result.andThen, h]
theorem bld_59 {ps : List (Nat × Value)} {cs : List Value} (h : fillL (fun i => ([(0, 1), (1, 1), (2, 1), (3, 1), (4, 1)] : List (Nat × Nat))[i]?) ((Try.t59.zero.getD undef).cells).toList ps = some cs) : ∀ w, (Instr.build 59 ps.toArray).run Try.prog w = .ok (.agg cs.toArray) w := by
  intro w
  have h := fill_list _ _ _ _ h
  have hz : (zeroValue 59).run Try.prog w = .ok (Try.t59.zero.getD undef) w := by first | exact Try.zeroValue59 w | (rw [Try.zeroValue59]; rfl)
  simp [Instr.build, hz, Try.runUnderlying59, Try.sizeOf3, Result.andThen, h]
theorem bld_62 {ps : List (Nat × Value)} {cs : List Value} (h : fillL (fun i => ([(0, 1), (1, 1), (2, 1)] : List (Nat × Nat))[i]?) ((Try.t62.zero.getD undef).cells).toList ps = some cs) : ∀ w, (Instr.build 62 ps.toArray).run Try.prog w = .ok (.agg cs.toArray) w := by
  intro w
  have h := fill_list _ _ _ _ h
  have hz : (zeroValue 62).run Try.prog w = .ok (Try.t62.zero.getD undef) w := by first | exact Try.zeroValue62 w | (rw [Try.zeroValue62]; rfl)
  simp [Instr.build, hz, Try.runUnderlying62, Try.sizeOf3, Result.andThen, h]
theorem bld_63 {ps : List (Nat × Value)} {cs : List Value} (h : fillL (fun i => ([(0, 1), (1, 1), (2, 1)] : List (Nat × Nat))[i]?) ((Try.t63.zero.getD undef).cells).toList ps = some cs) : ∀ w, (Instr.build 63 ps.toArray).run Try.prog w = .ok (.agg cs.toArray) w := by
  intro w
  have h := fill_list _ _ _ _ h
  have hz : (zeroValue 63).run Try.prog w = .ok (Try.t63.zero.getD undef) w := by first | exact Try.zeroValue63 w | (rw [Try.zeroValue63]; rfl)
  simp [Instr.build, hz, Try.runUnderlying63, Try.sizeOf3, Result.andThen, h]
theorem bld_74 {ps : List (Nat × Value)} {cs : List Value} (h : fillL (fun i => ([(0, 1), (1, 1), (2, 1), (3, 1)] : List (Nat × Nat))[i]?) ((Try.t74.zero.getD undef).cells).toList ps = some cs) : ∀ w, (Instr.build 74 ps.toArray).run Try.prog w = .ok (.agg cs.toArray) w := by
  intro w
  have h := fill_list _ _ _ _ h
  have hz : (zeroValue 74).run Try.prog w = .ok (Try.t74.zero.getD undef) w := by first | exact Try.zeroValue74 w | (rw [Try.zeroValue74]; rfl)
  simp [Instr.build, hz, Try.runUnderlying74, Try.sizeOf3, Try.sizeOf4, Try.sizeOf41, Result.andThen, h]
theorem bld_79 {ps : List (Nat × Value)} {cs : List Value} (h : fillL (fun i => ([(0, 1), (1, 1), (2, 1)] : List (Nat × Nat))[i]?) ((Try.t79.zero.getD undef).cells).toList ps = some cs) : ∀ w, (Instr.build 79 ps.toArray).run Try.prog w = .ok (.agg cs.toArray) w := by
  intro w
  have h := fill_list _ _ _ _ h
  have hz : (zeroValue 79).run Try.prog w = .ok (Try.t79.zero.getD undef) w := by first | exact Try.zeroValue79 w | (rw [Try.zeroValue79]; rfl)
  simp [Instr.build, hz, Try.runUnderlying79, Try.sizeOf3, Result.andThen, h]
-- build of another type: 87
theorem bld_91 {ps : List (Nat × Value)} {cs : List Value} (h : fillL (fun i => ([(0, 3), (3, 1)] : List (Nat × Nat))[i]?) ((Try.t91.zero.getD undef).cells).toList ps = some cs) : ∀ w, (Instr.build 91 ps.toArray).run Try.prog w = .ok (.agg cs.toArray) w := by
  intro w
  have h := fill_list _ _ _ _ h
  have hz : (zeroValue 91).run Try.prog w = .ok (Try.t91.zero.getD undef) w := by first | exact Try.zeroValue91 w | (rw [Try.zeroValue91]; rfl)
  simp [Instr.build, hz, Try.runUnderlying91, Try.sizeOf3, Try.sizeOf79, Result.andThen, h]
theorem bld_117 {ps : List (Nat × Value)} {cs : List Value} (h : fillL (fun i => ([(0, 5), (5, 1), (6, 1), (7, 2), (9, 1)] : List (Nat × Nat))[i]?) ((Try.t117.zero.getD undef).cells).toList ps = some cs) : ∀ w, (Instr.build 117 ps.toArray).run Try.prog w = .ok (.agg cs.toArray) w := by
  intro w
  have h := fill_list _ _ _ _ h
  have hz : (zeroValue 117).run Try.prog w = .ok (Try.t117.zero.getD undef) w := by first | exact Try.zeroValue117 w | (rw [Try.zeroValue117]; rfl)
  simp [Instr.build, hz, Try.runUnderlying117, Try.sizeOf23, Try.sizeOf3, Try.sizeOf43, Try.sizeOf53, Result.andThen, h]
theorem bld_121 {ps : List (Nat × Value)} {cs : List Value} (h : fillL (fun i => ([(0, 1)] : List (Nat × Nat))[i]?) ((Try.t121.zero.getD undef).cells).toList ps = some cs) : ∀ w, (Instr.build 121 ps.toArray).run Try.prog w = .ok (.agg cs.toArray) w := by
  intro w
  have h := fill_list _ _ _ _ h
  have hz : (zeroValue 121).run Try.prog w = .ok (Try.t121.zero.getD undef) w := by first | exact Try.zeroValue121 w | (rw [Try.zeroValue121]; rfl)
  simp [Instr.build, hz, Try.runUnderlying121, Try.sizeOf118, Result.andThen, h]
theorem bld_128 {ps : List (Nat × Value)} {cs : List Value} (h : fillL (fun i => ([(0, 1), (1, 1), (2, 1)] : List (Nat × Nat))[i]?) ((Try.t128.zero.getD undef).cells).toList ps = some cs) : ∀ w, (Instr.build 128 ps.toArray).run Try.prog w = .ok (.agg cs.toArray) w := by
  intro w
  have h := fill_list _ _ _ _ h
  have hz : (zeroValue 128).run Try.prog w = .ok (Try.t128.zero.getD undef) w := by first | exact Try.zeroValue128 w | (rw [Try.zeroValue128]; rfl)
  simp [Instr.build, hz, Try.runUnderlying128, Try.sizeOf3, Try.sizeOf4, Result.andThen, h]
theorem bld_134 {ps : List (Nat × Value)} {cs : List Value} (h : fillL (fun i => ([(0, 1), (1, 1), (2, 1)] : List (Nat × Nat))[i]?) ((Try.t134.zero.getD undef).cells).toList ps = some cs) : ∀ w, (Instr.build 134 ps.toArray).run Try.prog w = .ok (.agg cs.toArray) w := by
  intro w
  have h := fill_list _ _ _ _ h
  have hz : (zeroValue 134).run Try.prog w = .ok (Try.t134.zero.getD undef) w := by first | exact Try.zeroValue134 w | (rw [Try.zeroValue134]; rfl)
  simp [Instr.build, hz, Try.runUnderlying134, Try.sizeOf41, Try.sizeOf52, Result.andThen, h]
theorem bld_138 {ps : List (Nat × Value)} {cs : List Value} (h : fillL (fun i => ([(0, 1), (1, 1), (2, 1), (3, 1), (4, 1), (5, 1)] : List (Nat × Nat))[i]?) ((Try.t138.zero.getD undef).cells).toList ps = some cs) : ∀ w, (Instr.build 138 ps.toArray).run Try.prog w = .ok (.agg cs.toArray) w := by
  intro w
  have h := fill_list _ _ _ _ h
  have hz : (zeroValue 138).run Try.prog w = .ok (Try.t138.zero.getD undef) w := by first | exact Try.zeroValue138 w | (rw [Try.zeroValue138]; rfl)
  simp [Instr.build, hz, Try.runUnderlying138, Try.sizeOf26, Try.sizeOf3, Try.sizeOf4, Try.sizeOf41, Try.sizeOf75, Result.andThen, h]
theorem bld_143 {ps : List (Nat × Value)} {cs : List Value} (h : fillL (fun i => ([(0, 1), (1, 4), (5, 1), (6, 1), (7, 1), (8, 1), (9, 3), (12, 3), (15, 3), (18, 3), (21, 2), (23, 1)] : List (Nat × Nat))[i]?) ((Try.t143.zero.getD undef).cells).toList ps = some cs) : ∀ w, (Instr.build 143 ps.toArray).run Try.prog w = .ok (.agg cs.toArray) w := by
  intro w
  have h := fill_list _ _ _ _ h
  have hz : (zeroValue 143).run Try.prog w = .ok (Try.t143.zero.getD undef) w := by first | exact Try.zeroValue143 w | (rw [Try.zeroValue143]; rfl)
  simp [Instr.build, hz, Try.runUnderlying143, Try.sizeOf26, Try.sizeOf3, Try.sizeOf4, Try.sizeOf41, Try.sizeOf43, Try.sizeOf45, Try.sizeOf91, Result.andThen, h]
theorem bld_144 {ps : List (Nat × Value)} {cs : List Value} (h : fillL (fun i => ([(0, 1), (1, 1), (2, 1)] : List (Nat × Nat))[i]?) ((Try.t144.zero.getD undef).cells).toList ps = some cs) : ∀ w, (Instr.build 144 ps.toArray).run Try.prog w = .ok (.agg cs.toArray) w := by
  intro w
  have h := fill_list _ _ _ _ h
  have hz : (zeroValue 144).run Try.prog w = .ok (Try.t144.zero.getD undef) w := by first | exact Try.zeroValue144 w | (rw [Try.zeroValue144]; rfl)
  simp [Instr.build, hz, Try.runUnderlying144, Try.sizeOf3, Try.sizeOf4, Result.andThen, h]
-- build of another type: 148
theorem bld_151 {ps : List (Nat × Value)} {cs : List Value} (h : fillL (fun i => ([(0, 1), (1, 1), (2, 1), (3, 1)] : List (Nat × Nat))[i]?) ((Try.t151.zero.getD undef).cells).toList ps = some cs) : ∀ w, (Instr.build 151 ps.toArray).run Try.prog w = .ok (.agg cs.toArray) w := by
  intro w
  have h := fill_list _ _ _ _ h
  have hz : (zeroValue 151).run Try.prog w = .ok (Try.t151.zero.getD undef) w := by first | exact Try.zeroValue151 w | (rw [Try.zeroValue151]; rfl)
  simp [Instr.build, hz, Try.runUnderlying151, Try.sizeOf149, Try.sizeOf26, Try.sizeOf3, Try.sizeOf41, Result.andThen, h]
theorem bld_163 {ps : List (Nat × Value)} {cs : List Value} (h : fillL (fun i => ([(0, 1), (1, 5)] : List (Nat × Nat))[i]?) ((Try.t163.zero.getD undef).cells).toList ps = some cs) : ∀ w, (Instr.build 163 ps.toArray).run Try.prog w = .ok (.agg cs.toArray) w := by
  intro w
  have h := fill_list _ _ _ _ h
  have hz : (zeroValue 163).run Try.prog w = .ok (Try.t163.zero.getD undef) w := by first | exact Try.zeroValue163 w | (rw [Try.zeroValue163]; rfl)
  simp [Instr.build, hz, Try.runUnderlying163, Try.sizeOf161, Try.sizeOf59, Result.andThen, h]
theorem bld_165 {ps : List (Nat × Value)} {cs : List Value} (h : fillL (fun i => ([(0, 3), (3, 1)] : List (Nat × Nat))[i]?) ((Try.t165.zero.getD undef).cells).toList ps = some cs) : ∀ w, (Instr.build 165 ps.toArray).run Try.prog w = .ok (.agg cs.toArray) w := by
  intro w
  have h := fill_list _ _ _ _ h
  have hz : (zeroValue 165).run Try.prog w = .ok (Try.t165.zero.getD undef) w := by first | exact Try.zeroValue165 w | (rw [Try.zeroValue165]; rfl)
  simp [Instr.build, hz, Try.runUnderlying165, Try.sizeOf41, Try.sizeOf79, Result.andThen, h]
theorem bld_188 {ps : List (Nat × Value)} {cs : List Value} (h : fillL (fun i => ([(0, 1), (1, 1)] : List (Nat × Nat))[i]?) ((Try.t188.zero.getD undef).cells).toList ps = some cs) : ∀ w, (Instr.build 188 ps.toArray).run Try.prog w = .ok (.agg cs.toArray) w := by
  intro w
  have h := fill_list _ _ _ _ h
  have hz : (zeroValue 188).run Try.prog w = .ok (Try.t188.zero.getD undef) w := by first | exact Try.zeroValue188 w | (rw [Try.zeroValue188]; rfl)
  simp [Instr.build, hz, Try.runUnderlying188, Try.sizeOf3, Result.andThen, h]
theorem eqc_23 {a0 b0 : Int} {a1 b1 : Int} {a2 b2 : Int} {a3 b3 : Int} {a4 b4 : Int} : ∀ w, (Op.equalIn 10000 23 (.agg #[.int .i64 a0, .int .i64 a1, .int .i64 a2, .int .i64 a3, .int .i64 a4]) (.agg #[.int .i64 b0, .int .i64 b1, .int .i64 b2, .int .i64 b3, .int .i64 b4])).run Try.prog w = .ok ((decide (a0 = b0) && (decide (a1 = b1) && (decide (a2 = b2) && (decide (a3 = b3) && decide (a4 = b4)))))) w := by
  intro w
  by_cases h0 : a0 = b0
  case neg => simp [run_equalIn_agg, run_equalIn_int, run_equalIn_bool', Program.fieldsOf, Op.eqFields, part, Result.andThen, Try.isAgg23, Try.isAgg3, Try.runUnderlying23, Try.runUnderlying3, Try.sizeOf23, Try.sizeOf3, Try.stoodInHeld23, Try.underlying23, Try.underlying3, h0]
  subst h0
  by_cases h1 : a1 = b1
  case neg => simp [run_equalIn_agg, run_equalIn_int, run_equalIn_bool', Program.fieldsOf, Op.eqFields, part, Result.andThen, Try.isAgg23, Try.isAgg3, Try.runUnderlying23, Try.runUnderlying3, Try.sizeOf23, Try.sizeOf3, Try.stoodInHeld23, Try.underlying23, Try.underlying3, h1]
  subst h1
  by_cases h2 : a2 = b2
  case neg => simp [run_equalIn_agg, run_equalIn_int, run_equalIn_bool', Program.fieldsOf, Op.eqFields, part, Result.andThen, Try.isAgg23, Try.isAgg3, Try.runUnderlying23, Try.runUnderlying3, Try.sizeOf23, Try.sizeOf3, Try.stoodInHeld23, Try.underlying23, Try.underlying3, h2]
  subst h2
  by_cases h3 : a3 = b3
  case neg => simp [run_equalIn_agg, run_equalIn_int, run_equalIn_bool', Program.fieldsOf, Op.eqFields, part, Result.andThen, Try.isAgg23, Try.isAgg3, Try.runUnderlying23, Try.runUnderlying3, Try.sizeOf23, Try.sizeOf3, Try.stoodInHeld23, Try.underlying23, Try.underlying3, h3]
  subst h3
  by_cases h4 : a4 = b4
  case neg => simp [run_equalIn_agg, run_equalIn_int, run_equalIn_bool', Program.fieldsOf, Op.eqFields, part, Result.andThen, Try.isAgg23, Try.isAgg3, Try.runUnderlying23, Try.runUnderlying3, Try.sizeOf23, Try.sizeOf3, Try.stoodInHeld23, Try.underlying23, Try.underlying3, h4]
  subst h4
  simp [run_equalIn_agg, run_equalIn_int, run_equalIn_bool', Program.fieldsOf, Op.eqFields, part, Result.andThen, Try.isAgg23, Try.isAgg3, Try.runUnderlying23, Try.runUnderlying3, Try.sizeOf23, Try.sizeOf3, Try.stoodInHeld23, Try.underlying23, Try.underlying3]
theorem eql_23 {x y : Operand} {a0 b0 : Int} {a1 b1 : Int} {a2 b2 : Int} {a3 b3 : Int} {a4 b4 : Int} : ∀ w, (do eqGuard .eql 23 x y (.agg #[.int .i64 a0, .int .i64 a1, .int .i64 a2, .int .i64 a3, .int .i64 a4]) (.agg #[.int .i64 b0, .int .i64 b1, .int .i64 b2, .int .i64 b3, .int .i64 b4]); binOp .eql 23 (.agg #[.int .i64 a0, .int .i64 a1, .int .i64 a2, .int .i64 a3, .int .i64 a4]) (.agg #[.int .i64 b0, .int .i64 b1, .int .i64 b2, .int .i64 b3, .int .i64 b4]) : Sem Value).run Try.prog w = .ok (.bool (((decide (a0 = b0) && (decide (a1 = b1) && (decide (a2 = b2) && (decide (a3 = b3) && decide (a4 = b4)))))))) w := by
  intro w
  simp only [Sem.run_bind, run_eqGuard_agg _ _ _ _ _ _ _ Try.eqGuardType23, Result.andThen_ok, run_eql_struct, run_neq_struct, eqc_23]
theorem neq_23 {x y : Operand} {a0 b0 : Int} {a1 b1 : Int} {a2 b2 : Int} {a3 b3 : Int} {a4 b4 : Int} : ∀ w, (do eqGuard .neq 23 x y (.agg #[.int .i64 a0, .int .i64 a1, .int .i64 a2, .int .i64 a3, .int .i64 a4]) (.agg #[.int .i64 b0, .int .i64 b1, .int .i64 b2, .int .i64 b3, .int .i64 b4]); binOp .neq 23 (.agg #[.int .i64 a0, .int .i64 a1, .int .i64 a2, .int .i64 a3, .int .i64 a4]) (.agg #[.int .i64 b0, .int .i64 b1, .int .i64 b2, .int .i64 b3, .int .i64 b4]) : Sem Value).run Try.prog w = .ok (.bool (!((decide (a0 = b0) && (decide (a1 = b1) && (decide (a2 = b2) && (decide (a3 = b3) && decide (a4 = b4)))))))) w := by
  intro w
  simp only [Sem.run_bind, run_eqGuard_agg _ _ _ _ _ _ _ Try.eqGuardType23, Result.andThen_ok, run_eql_struct, run_neq_struct, eqc_23]
theorem eqc_43 {a0 b0 : Int} {a1 b1 : Int} : ∀ w, (Op.equalIn 10000 43 (.agg #[.int .i64 a0, .int .i64 a1]) (.agg #[.int .i64 b0, .int .i64 b1])).run Try.prog w = .ok ((decide (a0 = b0) && decide (a1 = b1))) w := by
  intro w
  by_cases h0 : a0 = b0
  case neg => simp [run_equalIn_agg, run_equalIn_int, run_equalIn_bool', Program.fieldsOf, Op.eqFields, part, Result.andThen, Try.isAgg3, Try.isAgg43, Try.runUnderlying3, Try.runUnderlying43, Try.sizeOf3, Try.sizeOf43, Try.stoodInHeld43, Try.underlying3, Try.underlying43, h0]
  subst h0
  by_cases h1 : a1 = b1
  case neg => simp [run_equalIn_agg, run_equalIn_int, run_equalIn_bool', Program.fieldsOf, Op.eqFields, part, Result.andThen, Try.isAgg3, Try.isAgg43, Try.runUnderlying3, Try.runUnderlying43, Try.sizeOf3, Try.sizeOf43, Try.stoodInHeld43, Try.underlying3, Try.underlying43, h1]
  subst h1
  simp [run_equalIn_agg, run_equalIn_int, run_equalIn_bool', Program.fieldsOf, Op.eqFields, part, Result.andThen, Try.isAgg3, Try.isAgg43, Try.runUnderlying3, Try.runUnderlying43, Try.sizeOf3, Try.sizeOf43, Try.stoodInHeld43, Try.underlying3, Try.underlying43]
theorem eql_43 {x y : Operand} {a0 b0 : Int} {a1 b1 : Int} : ∀ w, (do eqGuard .eql 43 x y (.agg #[.int .i64 a0, .int .i64 a1]) (.agg #[.int .i64 b0, .int .i64 b1]); binOp .eql 43 (.agg #[.int .i64 a0, .int .i64 a1]) (.agg #[.int .i64 b0, .int .i64 b1]) : Sem Value).run Try.prog w = .ok (.bool (((decide (a0 = b0) && decide (a1 = b1))))) w := by
  intro w
  simp only [Sem.run_bind, run_eqGuard_agg _ _ _ _ _ _ _ Try.eqGuardType43, Result.andThen_ok, run_eql_struct, run_neq_struct, eqc_43]
theorem neq_43 {x y : Operand} {a0 b0 : Int} {a1 b1 : Int} : ∀ w, (do eqGuard .neq 43 x y (.agg #[.int .i64 a0, .int .i64 a1]) (.agg #[.int .i64 b0, .int .i64 b1]); binOp .neq 43 (.agg #[.int .i64 a0, .int .i64 a1]) (.agg #[.int .i64 b0, .int .i64 b1]) : Sem Value).run Try.prog w = .ok (.bool (!((decide (a0 = b0) && decide (a1 = b1))))) w := by
  intro w
  simp only [Sem.run_bind, run_eqGuard_agg _ _ _ _ _ _ _ Try.eqGuardType43, Result.andThen_ok, run_eql_struct, run_neq_struct, eqc_43]
theorem eqc_45 {a0 b0 : Int} {a1 b1 : Int} {a2 b2 : Bool} : ∀ w, (Op.equalIn 10000 45 (.agg #[.int .u64 a0, .int .i64 a1, .bool a2]) (.agg #[.int .u64 b0, .int .i64 b1, .bool b2])).run Try.prog w = .ok ((decide (a0 = b0) && (decide (a1 = b1) && decide (a2 = b2)))) w := by
  intro w
  by_cases h0 : a0 = b0
  case neg => simp [run_equalIn_agg, run_equalIn_int, run_equalIn_bool', Program.fieldsOf, Op.eqFields, part, Result.andThen, Try.isAgg3, Try.isAgg4, Try.isAgg41, Try.isAgg45, Try.runUnderlying3, Try.runUnderlying4, Try.runUnderlying41, Try.runUnderlying45, Try.sizeOf3, Try.sizeOf4, Try.sizeOf41, Try.sizeOf45, Try.stoodInHeld45, Try.underlying3, Try.underlying4, Try.underlying41, Try.underlying45, h0]
  subst h0
  by_cases h1 : a1 = b1
  case neg => simp [run_equalIn_agg, run_equalIn_int, run_equalIn_bool', Program.fieldsOf, Op.eqFields, part, Result.andThen, Try.isAgg3, Try.isAgg4, Try.isAgg41, Try.isAgg45, Try.runUnderlying3, Try.runUnderlying4, Try.runUnderlying41, Try.runUnderlying45, Try.sizeOf3, Try.sizeOf4, Try.sizeOf41, Try.sizeOf45, Try.stoodInHeld45, Try.underlying3, Try.underlying4, Try.underlying41, Try.underlying45, h1]
  subst h1
  by_cases h2 : a2 = b2
  case neg => simp [run_equalIn_agg, run_equalIn_int, run_equalIn_bool', Program.fieldsOf, Op.eqFields, part, Result.andThen, Try.isAgg3, Try.isAgg4, Try.isAgg41, Try.isAgg45, Try.runUnderlying3, Try.runUnderlying4, Try.runUnderlying41, Try.runUnderlying45, Try.sizeOf3, Try.sizeOf4, Try.sizeOf41, Try.sizeOf45, Try.stoodInHeld45, Try.underlying3, Try.underlying4, Try.underlying41, Try.underlying45, h2]
  subst h2
  simp [run_equalIn_agg, run_equalIn_int, run_equalIn_bool', Program.fieldsOf, Op.eqFields, part, Result.andThen, Try.isAgg3, Try.isAgg4, Try.isAgg41, Try.isAgg45, Try.runUnderlying3, Try.runUnderlying4, Try.runUnderlying41, Try.runUnderlying45, Try.sizeOf3, Try.sizeOf4, Try.sizeOf41, Try.sizeOf45, Try.stoodInHeld45, Try.underlying3, Try.underlying4, Try.underlying41, Try.underlying45]
theorem eql_45 {x y : Operand} {a0 b0 : Int} {a1 b1 : Int} {a2 b2 : Bool} : ∀ w, (do eqGuard .eql 45 x y (.agg #[.int .u64 a0, .int .i64 a1, .bool a2]) (.agg #[.int .u64 b0, .int .i64 b1, .bool b2]); binOp .eql 45 (.agg #[.int .u64 a0, .int .i64 a1, .bool a2]) (.agg #[.int .u64 b0, .int .i64 b1, .bool b2]) : Sem Value).run Try.prog w = .ok (.bool (((decide (a0 = b0) && (decide (a1 = b1) && decide (a2 = b2)))))) w := by
  intro w
  simp only [Sem.run_bind, run_eqGuard_agg _ _ _ _ _ _ _ Try.eqGuardType45, Result.andThen_ok, run_eql_struct, run_neq_struct, eqc_45]
theorem neq_45 {x y : Operand} {a0 b0 : Int} {a1 b1 : Int} {a2 b2 : Bool} : ∀ w, (do eqGuard .neq 45 x y (.agg #[.int .u64 a0, .int .i64 a1, .bool a2]) (.agg #[.int .u64 b0, .int .i64 b1, .bool b2]); binOp .neq 45 (.agg #[.int .u64 a0, .int .i64 a1, .bool a2]) (.agg #[.int .u64 b0, .int .i64 b1, .bool b2]) : Sem Value).run Try.prog w = .ok (.bool (!((decide (a0 = b0) && (decide (a1 = b1) && decide (a2 = b2)))))) w := by
  intro w
  simp only [Sem.run_bind, run_eqGuard_agg _ _ _ _ _ _ _ Try.eqGuardType45, Result.andThen_ok, run_eql_struct, run_neq_struct, eqc_45]
theorem eqc_62 {a0 b0 : Int} {a1 b1 : Int} {a2 b2 : Int} : ∀ w, (Op.equalIn 10000 62 (.agg #[.int .i64 a0, .int .i64 a1, .int .i64 a2]) (.agg #[.int .i64 b0, .int .i64 b1, .int .i64 b2])).run Try.prog w = .ok ((decide (a0 = b0) && (decide (a1 = b1) && decide (a2 = b2)))) w := by
  intro w
  by_cases h0 : a0 = b0
  case neg => simp [run_equalIn_agg, run_equalIn_int, run_equalIn_bool', Program.fieldsOf, Op.eqFields, part, Result.andThen, Try.isAgg3, Try.isAgg62, Try.runUnderlying3, Try.runUnderlying62, Try.sizeOf3, Try.sizeOf62, Try.stoodInHeld62, Try.underlying3, Try.underlying62, h0]
  subst h0
  by_cases h1 : a1 = b1
  case neg => simp [run_equalIn_agg, run_equalIn_int, run_equalIn_bool', Program.fieldsOf, Op.eqFields, part, Result.andThen, Try.isAgg3, Try.isAgg62, Try.runUnderlying3, Try.runUnderlying62, Try.sizeOf3, Try.sizeOf62, Try.stoodInHeld62, Try.underlying3, Try.underlying62, h1]
  subst h1
  by_cases h2 : a2 = b2
  case neg => simp [run_equalIn_agg, run_equalIn_int, run_equalIn_bool', Program.fieldsOf, Op.eqFields, part, Result.andThen, Try.isAgg3, Try.isAgg62, Try.runUnderlying3, Try.runUnderlying62, Try.sizeOf3, Try.sizeOf62, Try.stoodInHeld62, Try.underlying3, Try.underlying62, h2]
  subst h2
  simp [run_equalIn_agg, run_equalIn_int, run_equalIn_bool', Program.fieldsOf, Op.eqFields, part, Result.andThen, Try.isAgg3, Try.isAgg62, Try.runUnderlying3, Try.runUnderlying62, Try.sizeOf3, Try.sizeOf62, Try.stoodInHeld62, Try.underlying3, Try.underlying62]
theorem eql_62 {x y : Operand} {a0 b0 : Int} {a1 b1 : Int} {a2 b2 : Int} : ∀ w, (do eqGuard .eql 62 x y (.agg #[.int .i64 a0, .int .i64 a1, .int .i64 a2]) (.agg #[.int .i64 b0, .int .i64 b1, .int .i64 b2]); binOp .eql 62 (.agg #[.int .i64 a0, .int .i64 a1, .int .i64 a2]) (.agg #[.int .i64 b0, .int .i64 b1, .int .i64 b2]) : Sem Value).run Try.prog w = .ok (.bool (((decide (a0 = b0) && (decide (a1 = b1) && decide (a2 = b2)))))) w := by
  intro w
  simp only [Sem.run_bind, run_eqGuard_agg _ _ _ _ _ _ _ Try.eqGuardType62, Result.andThen_ok, run_eql_struct, run_neq_struct, eqc_62]
theorem neq_62 {x y : Operand} {a0 b0 : Int} {a1 b1 : Int} {a2 b2 : Int} : ∀ w, (do eqGuard .neq 62 x y (.agg #[.int .i64 a0, .int .i64 a1, .int .i64 a2]) (.agg #[.int .i64 b0, .int .i64 b1, .int .i64 b2]); binOp .neq 62 (.agg #[.int .i64 a0, .int .i64 a1, .int .i64 a2]) (.agg #[.int .i64 b0, .int .i64 b1, .int .i64 b2]) : Sem Value).run Try.prog w = .ok (.bool (!((decide (a0 = b0) && (decide (a1 = b1) && decide (a2 = b2)))))) w := by
  intro w
  simp only [Sem.run_bind, run_eqGuard_agg _ _ _ _ _ _ _ Try.eqGuardType62, Result.andThen_ok, run_eql_struct, run_neq_struct, eqc_62]
theorem eqc_79 {a0 b0 : Int} {a1 b1 : Int} {a2 b2 : Int} : ∀ w, (Op.equalIn 10000 79 (.agg #[.int .i64 a0, .int .i64 a1, .int .i64 a2]) (.agg #[.int .i64 b0, .int .i64 b1, .int .i64 b2])).run Try.prog w = .ok ((decide (a0 = b0) && (decide (a1 = b1) && decide (a2 = b2)))) w := by
  intro w
  by_cases h0 : a0 = b0
  case neg => simp [run_equalIn_agg, run_equalIn_int, run_equalIn_bool', Program.fieldsOf, Op.eqFields, part, Result.andThen, Try.isAgg3, Try.isAgg79, Try.runUnderlying3, Try.runUnderlying79, Try.sizeOf3, Try.sizeOf79, Try.stoodInHeld79, Try.underlying3, Try.underlying79, h0]
  subst h0
  by_cases h1 : a1 = b1
  case neg => simp [run_equalIn_agg, run_equalIn_int, run_equalIn_bool', Program.fieldsOf, Op.eqFields, part, Result.andThen, Try.isAgg3, Try.isAgg79, Try.runUnderlying3, Try.runUnderlying79, Try.sizeOf3, Try.sizeOf79, Try.stoodInHeld79, Try.underlying3, Try.underlying79, h1]
  subst h1
  by_cases h2 : a2 = b2
  case neg => simp [run_equalIn_agg, run_equalIn_int, run_equalIn_bool', Program.fieldsOf, Op.eqFields, part, Result.andThen, Try.isAgg3, Try.isAgg79, Try.runUnderlying3, Try.runUnderlying79, Try.sizeOf3, Try.sizeOf79, Try.stoodInHeld79, Try.underlying3, Try.underlying79, h2]
  subst h2
  simp [run_equalIn_agg, run_equalIn_int, run_equalIn_bool', Program.fieldsOf, Op.eqFields, part, Result.andThen, Try.isAgg3, Try.isAgg79, Try.runUnderlying3, Try.runUnderlying79, Try.sizeOf3, Try.sizeOf79, Try.stoodInHeld79, Try.underlying3, Try.underlying79]
theorem eql_79 {x y : Operand} {a0 b0 : Int} {a1 b1 : Int} {a2 b2 : Int} : ∀ w, (do eqGuard .eql 79 x y (.agg #[.int .i64 a0, .int .i64 a1, .int .i64 a2]) (.agg #[.int .i64 b0, .int .i64 b1, .int .i64 b2]); binOp .eql 79 (.agg #[.int .i64 a0, .int .i64 a1, .int .i64 a2]) (.agg #[.int .i64 b0, .int .i64 b1, .int .i64 b2]) : Sem Value).run Try.prog w = .ok (.bool (((decide (a0 = b0) && (decide (a1 = b1) && decide (a2 = b2)))))) w := by
  intro w
  simp only [Sem.run_bind, run_eqGuard_agg _ _ _ _ _ _ _ Try.eqGuardType79, Result.andThen_ok, run_eql_struct, run_neq_struct, eqc_79]
theorem neq_79 {x y : Operand} {a0 b0 : Int} {a1 b1 : Int} {a2 b2 : Int} : ∀ w, (do eqGuard .neq 79 x y (.agg #[.int .i64 a0, .int .i64 a1, .int .i64 a2]) (.agg #[.int .i64 b0, .int .i64 b1, .int .i64 b2]); binOp .neq 79 (.agg #[.int .i64 a0, .int .i64 a1, .int .i64 a2]) (.agg #[.int .i64 b0, .int .i64 b1, .int .i64 b2]) : Sem Value).run Try.prog w = .ok (.bool (!((decide (a0 = b0) && (decide (a1 = b1) && decide (a2 = b2)))))) w := by
  intro w
  simp only [Sem.run_bind, run_eqGuard_agg _ _ _ _ _ _ _ Try.eqGuardType79, Result.andThen_ok, run_eql_struct, run_neq_struct, eqc_79]
theorem eqc_91 {a0 b0 : Int} {a1 b1 : Int} {a2 b2 : Int} {a3 b3 : Int} : ∀ w, (Op.equalIn 10000 91 (.agg #[.int .i64 a0, .int .i64 a1, .int .i64 a2, .int .i64 a3]) (.agg #[.int .i64 b0, .int .i64 b1, .int .i64 b2, .int .i64 b3])).run Try.prog w = .ok ((decide (a0 = b0) && (decide (a1 = b1) && (decide (a2 = b2) && decide (a3 = b3))))) w := by
  intro w
  by_cases h0 : a0 = b0
  case neg => simp [run_equalIn_agg, run_equalIn_int, run_equalIn_bool', Program.fieldsOf, Op.eqFields, part, Result.andThen, Try.isAgg3, Try.isAgg79, Try.isAgg91, Try.runUnderlying3, Try.runUnderlying79, Try.runUnderlying91, Try.sizeOf3, Try.sizeOf79, Try.sizeOf91, Try.stoodInHeld79, Try.stoodInHeld91, Try.underlying3, Try.underlying79, Try.underlying91, h0]
  subst h0
  by_cases h1 : a1 = b1
  case neg => simp [run_equalIn_agg, run_equalIn_int, run_equalIn_bool', Program.fieldsOf, Op.eqFields, part, Result.andThen, Try.isAgg3, Try.isAgg79, Try.isAgg91, Try.runUnderlying3, Try.runUnderlying79, Try.runUnderlying91, Try.sizeOf3, Try.sizeOf79, Try.sizeOf91, Try.stoodInHeld79, Try.stoodInHeld91, Try.underlying3, Try.underlying79, Try.underlying91, h1]
  subst h1
  by_cases h2 : a2 = b2
  case neg => simp [run_equalIn_agg, run_equalIn_int, run_equalIn_bool', Program.fieldsOf, Op.eqFields, part, Result.andThen, Try.isAgg3, Try.isAgg79, Try.isAgg91, Try.runUnderlying3, Try.runUnderlying79, Try.runUnderlying91, Try.sizeOf3, Try.sizeOf79, Try.sizeOf91, Try.stoodInHeld79, Try.stoodInHeld91, Try.underlying3, Try.underlying79, Try.underlying91, h2]
  subst h2
  by_cases h3 : a3 = b3
  case neg => simp [run_equalIn_agg, run_equalIn_int, run_equalIn_bool', Program.fieldsOf, Op.eqFields, part, Result.andThen, Try.isAgg3, Try.isAgg79, Try.isAgg91, Try.runUnderlying3, Try.runUnderlying79, Try.runUnderlying91, Try.sizeOf3, Try.sizeOf79, Try.sizeOf91, Try.stoodInHeld79, Try.stoodInHeld91, Try.underlying3, Try.underlying79, Try.underlying91, h3]
  subst h3
  simp [run_equalIn_agg, run_equalIn_int, run_equalIn_bool', Program.fieldsOf, Op.eqFields, part, Result.andThen, Try.isAgg3, Try.isAgg79, Try.isAgg91, Try.runUnderlying3, Try.runUnderlying79, Try.runUnderlying91, Try.sizeOf3, Try.sizeOf79, Try.sizeOf91, Try.stoodInHeld79, Try.stoodInHeld91, Try.underlying3, Try.underlying79, Try.underlying91]
theorem eql_91 {x y : Operand} {a0 b0 : Int} {a1 b1 : Int} {a2 b2 : Int} {a3 b3 : Int} : ∀ w, (do eqGuard .eql 91 x y (.agg #[.int .i64 a0, .int .i64 a1, .int .i64 a2, .int .i64 a3]) (.agg #[.int .i64 b0, .int .i64 b1, .int .i64 b2, .int .i64 b3]); binOp .eql 91 (.agg #[.int .i64 a0, .int .i64 a1, .int .i64 a2, .int .i64 a3]) (.agg #[.int .i64 b0, .int .i64 b1, .int .i64 b2, .int .i64 b3]) : Sem Value).run Try.prog w = .ok (.bool (((decide (a0 = b0) && (decide (a1 = b1) && (decide (a2 = b2) && decide (a3 = b3))))))) w := by
  intro w
  simp only [Sem.run_bind, run_eqGuard_agg _ _ _ _ _ _ _ Try.eqGuardType91, Result.andThen_ok, run_eql_struct, run_neq_struct, eqc_91]
theorem neq_91 {x y : Operand} {a0 b0 : Int} {a1 b1 : Int} {a2 b2 : Int} {a3 b3 : Int} : ∀ w, (do eqGuard .neq 91 x y (.agg #[.int .i64 a0, .int .i64 a1, .int .i64 a2, .int .i64 a3]) (.agg #[.int .i64 b0, .int .i64 b1, .int .i64 b2, .int .i64 b3]); binOp .neq 91 (.agg #[.int .i64 a0, .int .i64 a1, .int .i64 a2, .int .i64 a3]) (.agg #[.int .i64 b0, .int .i64 b1, .int .i64 b2, .int .i64 b3]) : Sem Value).run Try.prog w = .ok (.bool (!((decide (a0 = b0) && (decide (a1 = b1) && (decide (a2 = b2) && decide (a3 = b3))))))) w := by
  intro w
  simp only [Sem.run_bind, run_eqGuard_agg _ _ _ _ _ _ _ Try.eqGuardType91, Result.andThen_ok, run_eql_struct, run_neq_struct, eqc_91]
end Go.Proofs.Ytaphhhnnplljdaa
