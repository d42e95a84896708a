/-
  Closed facts of the types: where fields lie, how structs are built and compared.
-/
import Derived.Test.YtbfplncdmbjjhaaGreatProg
import Derived.Test.YtbfplncdmbjjhaaGreatCal
import Derived.Laws.StructEq
import Derived.KernelRfl
set_option linter.unusedSimpArgs false
set_option linter.unusedVariables false
namespace Go.Proofs.YtbfplncdmbjjhaaGreat
open Go Go.SL
theorem fa_29_0 : ∀ b off w, (Instr.fieldAt 29 (.pointer (some ⟨b, off, none⟩)) 0).run Tryz.prog w = .ok (.pointer (some ⟨b, off + 0, none⟩)) w := by
  intro b off w
  simp [Instr.fieldAt, Instr.sureAddr, fieldPlace, Addr_add, Tryz.runUnderlying29, Tryz.sizeOf27, Result.andThen]
theorem fa_38_0 : ∀ b off w, (Instr.fieldAt 38 (.pointer (some ⟨b, off, none⟩)) 0).run Tryz.prog w = .ok (.pointer (some ⟨b, off + 0, none⟩)) w := by
  intro b off w
  simp [Instr.fieldAt, Instr.sureAddr, fieldPlace, Addr_add, Tryz.runUnderlying38, Tryz.sizeOf3, Result.andThen]
theorem fa_38_1 : ∀ b off w, (Instr.fieldAt 38 (.pointer (some ⟨b, off, none⟩)) 1).run Tryz.prog w = .ok (.pointer (some ⟨b, off + 1, none⟩)) w := by
  intro b off w
  simp [Instr.fieldAt, Instr.sureAddr, fieldPlace, Addr_add, Tryz.runUnderlying38, Tryz.sizeOf3, Result.andThen]
theorem fa_38_2 : ∀ b off w, (Instr.fieldAt 38 (.pointer (some ⟨b, off, none⟩)) 2).run Tryz.prog w = .ok (.pointer (some ⟨b, off + 2, none⟩)) w := by
  intro b off w
  simp [Instr.fieldAt, Instr.sureAddr, fieldPlace, Addr_add, Tryz.runUnderlying38, Tryz.sizeOf3, Result.andThen]
theorem fa_38_3 : ∀ b off w, (Instr.fieldAt 38 (.pointer (some ⟨b, off, none⟩)) 3).run Tryz.prog w = .ok (.pointer (some ⟨b, off + 3, none⟩)) w := by
  intro b off w
  simp [Instr.fieldAt, Instr.sureAddr, fieldPlace, Addr_add, Tryz.runUnderlying38, Tryz.sizeOf3, Result.andThen]
theorem fa_38_4 : ∀ b off w, (Instr.fieldAt 38 (.pointer (some ⟨b, off, none⟩)) 4).run Tryz.prog w = .ok (.pointer (some ⟨b, off + 4, none⟩)) w := by
  intro b off w
  simp [Instr.fieldAt, Instr.sureAddr, fieldPlace, Addr_add, Tryz.runUnderlying38, Tryz.sizeOf3, Result.andThen]
theorem fa_45_0 : ∀ b off w, (Instr.fieldAt 45 (.pointer (some ⟨b, off, none⟩)) 0).run Tryz.prog w = .ok (.pointer (some ⟨b, off + 0, none⟩)) w := by
  intro b off w
  simp [Instr.fieldAt, Instr.sureAddr, fieldPlace, Addr_add, Tryz.runUnderlying45, Tryz.sizeOf38, Result.andThen]
theorem fa_45_1 : ∀ b off w, (Instr.fieldAt 45 (.pointer (some ⟨b, off, none⟩)) 1).run Tryz.prog w = .ok (.pointer (some ⟨b, off + 5, none⟩)) w := by
  intro b off w
  simp [Instr.fieldAt, Instr.sureAddr, fieldPlace, Addr_add, Tryz.runUnderlying45, Tryz.sizeOf3, Result.andThen]
theorem fa_45_4 : ∀ b off w, (Instr.fieldAt 45 (.pointer (some ⟨b, off, none⟩)) 4).run Tryz.prog w = .ok (.pointer (some ⟨b, off + 9, none⟩)) w := by
  intro b off w
  simp [Instr.fieldAt, Instr.sureAddr, fieldPlace, Addr_add, Tryz.runUnderlying45, Tryz.sizeOf3, Result.andThen]
theorem fa_51_0 : ∀ b off w, (Instr.fieldAt 51 (.pointer (some ⟨b, off, none⟩)) 0).run Tryz.prog w = .ok (.pointer (some ⟨b, off + 0, none⟩)) w := by
  intro b off w
  simp [Instr.fieldAt, Instr.sureAddr, fieldPlace, Addr_add, Tryz.runUnderlying51, Tryz.sizeOf3, Result.andThen]
theorem fa_51_1 : ∀ b off w, (Instr.fieldAt 51 (.pointer (some ⟨b, off, none⟩)) 1).run Tryz.prog w = .ok (.pointer (some ⟨b, off + 1, none⟩)) w := by
  intro b off w
  simp [Instr.fieldAt, Instr.sureAddr, fieldPlace, Addr_add, Tryz.runUnderlying51, Tryz.sizeOf3, Result.andThen]
theorem fa_51_2 : ∀ b off w, (Instr.fieldAt 51 (.pointer (some ⟨b, off, none⟩)) 2).run Tryz.prog w = .ok (.pointer (some ⟨b, off + 2, none⟩)) w := by
  intro b off w
  simp [Instr.fieldAt, Instr.sureAddr, fieldPlace, Addr_add, Tryz.runUnderlying51, Tryz.sizeOf3, Result.andThen]
theorem fa_54_0 : ∀ b off w, (Instr.fieldAt 54 (.pointer (some ⟨b, off, none⟩)) 0).run Tryz.prog w = .ok (.pointer (some ⟨b, off + 0, none⟩)) w := by
  intro b off w
  simp [Instr.fieldAt, Instr.sureAddr, fieldPlace, Addr_add, Tryz.runUnderlying54, Tryz.sizeOf51, Result.andThen]
theorem fa_54_1 : ∀ b off w, (Instr.fieldAt 54 (.pointer (some ⟨b, off, none⟩)) 1).run Tryz.prog w = .ok (.pointer (some ⟨b, off + 3, none⟩)) w := by
  intro b off w
  simp [Instr.fieldAt, Instr.sureAddr, fieldPlace, Addr_add, Tryz.runUnderlying54, Tryz.sizeOf3, Result.andThen]
theorem fa_57_0 : ∀ b off w, (Instr.fieldAt 57 (.pointer (some ⟨b, off, none⟩)) 0).run Tryz.prog w = .ok (.pointer (some ⟨b, off + 0, none⟩)) w := by
  intro b off w
  simp [Instr.fieldAt, Instr.sureAddr, fieldPlace, Addr_add, Tryz.runUnderlying57, Tryz.sizeOf51, Result.andThen]
theorem fa_57_1 : ∀ b off w, (Instr.fieldAt 57 (.pointer (some ⟨b, off, none⟩)) 1).run Tryz.prog w = .ok (.pointer (some ⟨b, off + 3, none⟩)) w := by
  intro b off w
  simp [Instr.fieldAt, Instr.sureAddr, fieldPlace, Addr_add, Tryz.runUnderlying57, Tryz.sizeOf3, Result.andThen]
theorem fa_57_2 : ∀ b off w, (Instr.fieldAt 57 (.pointer (some ⟨b, off, none⟩)) 2).run Tryz.prog w = .ok (.pointer (some ⟨b, off + 4, none⟩)) w := by
  intro b off w
  simp [Instr.fieldAt, Instr.sureAddr, fieldPlace, Addr_add, Tryz.runUnderlying57, Tryz.sizeOf23, Result.andThen]
theorem fa_57_3 : ∀ b off w, (Instr.fieldAt 57 (.pointer (some ⟨b, off, none⟩)) 3).run Tryz.prog w = .ok (.pointer (some ⟨b, off + 5, none⟩)) w := by
  intro b off w
  simp [Instr.fieldAt, Instr.sureAddr, fieldPlace, Addr_add, Tryz.runUnderlying57, Tryz.sizeOf4, Result.andThen]
theorem fa_57_4 : ∀ b off w, (Instr.fieldAt 57 (.pointer (some ⟨b, off, none⟩)) 4).run Tryz.prog w = .ok (.pointer (some ⟨b, off + 6, none⟩)) w := by
  intro b off w
  simp [Instr.fieldAt, Instr.sureAddr, fieldPlace, Addr_add, Tryz.runUnderlying57, Tryz.sizeOf3, Result.andThen]
theorem fa_57_5 : ∀ b off w, (Instr.fieldAt 57 (.pointer (some ⟨b, off, none⟩)) 5).run Tryz.prog w = .ok (.pointer (some ⟨b, off + 7, none⟩)) w := by
  intro b off w
  simp [Instr.fieldAt, Instr.sureAddr, fieldPlace, Addr_add, Tryz.runUnderlying57, Tryz.sizeOf23, Result.andThen]
theorem fa_57_6 : ∀ b off w, (Instr.fieldAt 57 (.pointer (some ⟨b, off, none⟩)) 6).run Tryz.prog w = .ok (.pointer (some ⟨b, off + 8, none⟩)) w := by
  intro b off w
  simp [Instr.fieldAt, Instr.sureAddr, fieldPlace, Addr_add, Tryz.runUnderlying57, Tryz.sizeOf23, Result.andThen]
theorem fa_57_7 : ∀ b off w, (Instr.fieldAt 57 (.pointer (some ⟨b, off, none⟩)) 7).run Tryz.prog w = .ok (.pointer (some ⟨b, off + 9, none⟩)) w := by
  intro b off w
  simp [Instr.fieldAt, Instr.sureAddr, fieldPlace, Addr_add, Tryz.runUnderlying57, Tryz.sizeOf23, Result.andThen]
theorem fa_57_8 : ∀ b off w, (Instr.fieldAt 57 (.pointer (some ⟨b, off, none⟩)) 8).run Tryz.prog w = .ok (.pointer (some ⟨b, off + 10, none⟩)) w := by
  intro b off w
  simp [Instr.fieldAt, Instr.sureAddr, fieldPlace, Addr_add, Tryz.runUnderlying57, Tryz.sizeOf23, Result.andThen]
theorem fa_57_9 : ∀ b off w, (Instr.fieldAt 57 (.pointer (some ⟨b, off, none⟩)) 9).run Tryz.prog w = .ok (.pointer (some ⟨b, off + 11, none⟩)) w := by
  intro b off w
  simp [Instr.fieldAt, Instr.sureAddr, fieldPlace, Addr_add, Tryz.runUnderlying57, Tryz.sizeOf3, Result.andThen]
theorem fa_57_10 : ∀ b off w, (Instr.fieldAt 57 (.pointer (some ⟨b, off, none⟩)) 10).run Tryz.prog w = .ok (.pointer (some ⟨b, off + 12, none⟩)) w := by
  intro b off w
  simp [Instr.fieldAt, Instr.sureAddr, fieldPlace, Addr_add, Tryz.runUnderlying57, Tryz.sizeOf4, Result.andThen]
theorem fa_60_0 : ∀ b off w, (Instr.fieldAt 60 (.pointer (some ⟨b, off, none⟩)) 0).run Tryz.prog w = .ok (.pointer (some ⟨b, off + 0, none⟩)) w := by
  intro b off w
  simp [Instr.fieldAt, Instr.sureAddr, fieldPlace, Addr_add, Tryz.runUnderlying60, Tryz.sizeOf3, Result.andThen]
theorem fa_60_1 : ∀ b off w, (Instr.fieldAt 60 (.pointer (some ⟨b, off, none⟩)) 1).run Tryz.prog w = .ok (.pointer (some ⟨b, off + 1, none⟩)) w := by
  intro b off w
  simp [Instr.fieldAt, Instr.sureAddr, fieldPlace, Addr_add, Tryz.runUnderlying60, Tryz.sizeOf51, Result.andThen]
theorem fa_60_2 : ∀ b off w, (Instr.fieldAt 60 (.pointer (some ⟨b, off, none⟩)) 2).run Tryz.prog w = .ok (.pointer (some ⟨b, off + 4, none⟩)) w := by
  intro b off w
  simp [Instr.fieldAt, Instr.sureAddr, fieldPlace, Addr_add, Tryz.runUnderlying60, Tryz.sizeOf23, Result.andThen]
theorem fa_65_0 : ∀ b off w, (Instr.fieldAt 65 (.pointer (some ⟨b, off, none⟩)) 0).run Tryz.prog w = .ok (.pointer (some ⟨b, off + 0, none⟩)) w := by
  intro b off w
  simp [Instr.fieldAt, Instr.sureAddr, fieldPlace, Addr_add, Tryz.runUnderlying65, Tryz.sizeOf3, Result.andThen]
theorem fa_65_1 : ∀ b off w, (Instr.fieldAt 65 (.pointer (some ⟨b, off, none⟩)) 1).run Tryz.prog w = .ok (.pointer (some ⟨b, off + 1, none⟩)) w := by
  intro b off w
  simp [Instr.fieldAt, Instr.sureAddr, fieldPlace, Addr_add, Tryz.runUnderlying65, Tryz.sizeOf3, Result.andThen]
theorem fa_69_0 : ∀ b off w, (Instr.fieldAt 69 (.pointer (some ⟨b, off, none⟩)) 0).run Tryz.prog w = .ok (.pointer (some ⟨b, off + 0, none⟩)) w := by
  intro b off w
  simp [Instr.fieldAt, Instr.sureAddr, fieldPlace, Addr_add, Tryz.runUnderlying69, Tryz.sizeOf23, Result.andThen]
theorem fa_69_1 : ∀ b off w, (Instr.fieldAt 69 (.pointer (some ⟨b, off, none⟩)) 1).run Tryz.prog w = .ok (.pointer (some ⟨b, off + 1, none⟩)) w := by
  intro b off w
  simp [Instr.fieldAt, Instr.sureAddr, fieldPlace, Addr_add, Tryz.runUnderlying69, Tryz.sizeOf3, Result.andThen]
theorem fa_69_2 : ∀ b off w, (Instr.fieldAt 69 (.pointer (some ⟨b, off, none⟩)) 2).run Tryz.prog w = .ok (.pointer (some ⟨b, off + 2, none⟩)) w := by
  intro b off w
  simp [Instr.fieldAt, Instr.sureAddr, fieldPlace, Addr_add, Tryz.runUnderlying69, Tryz.sizeOf4, Result.andThen]
theorem fa_77_0 : ∀ b off w, (Instr.fieldAt 77 (.pointer (some ⟨b, off, none⟩)) 0).run Tryz.prog w = .ok (.pointer (some ⟨b, off + 0, none⟩)) w := by
  intro b off w
  simp [Instr.fieldAt, Instr.sureAddr, fieldPlace, Addr_add, Tryz.runUnderlying77, Tryz.sizeOf3, Result.andThen]
theorem fa_77_1 : ∀ b off w, (Instr.fieldAt 77 (.pointer (some ⟨b, off, none⟩)) 1).run Tryz.prog w = .ok (.pointer (some ⟨b, off + 1, none⟩)) w := by
  intro b off w
  simp [Instr.fieldAt, Instr.sureAddr, fieldPlace, Addr_add, Tryz.runUnderlying77, Tryz.sizeOf23, Result.andThen]
theorem fa_77_2 : ∀ b off w, (Instr.fieldAt 77 (.pointer (some ⟨b, off, none⟩)) 2).run Tryz.prog w = .ok (.pointer (some ⟨b, off + 2, none⟩)) w := by
  intro b off w
  simp [Instr.fieldAt, Instr.sureAddr, fieldPlace, Addr_add, Tryz.runUnderlying77, Tryz.sizeOf4, Result.andThen]
theorem fa_77_3 : ∀ b off w, (Instr.fieldAt 77 (.pointer (some ⟨b, off, none⟩)) 3).run Tryz.prog w = .ok (.pointer (some ⟨b, off + 3, none⟩)) w := by
  intro b off w
  simp [Instr.fieldAt, Instr.sureAddr, fieldPlace, Addr_add, Tryz.runUnderlying77, Tryz.sizeOf4, Result.andThen]
theorem fa_77_4 : ∀ b off w, (Instr.fieldAt 77 (.pointer (some ⟨b, off, none⟩)) 4).run Tryz.prog w = .ok (.pointer (some ⟨b, off + 4, none⟩)) w := by
  intro b off w
  simp [Instr.fieldAt, Instr.sureAddr, fieldPlace, Addr_add, Tryz.runUnderlying77, Tryz.sizeOf55, Result.andThen]
theorem fa_80_0 : ∀ b off w, (Instr.fieldAt 80 (.pointer (some ⟨b, off, none⟩)) 0).run Tryz.prog w = .ok (.pointer (some ⟨b, off + 0, none⟩)) w := by
  intro b off w
  simp [Instr.fieldAt, Instr.sureAddr, fieldPlace, Addr_add, Tryz.runUnderlying80, Tryz.sizeOf3, Result.andThen]
theorem fa_80_1 : ∀ b off w, (Instr.fieldAt 80 (.pointer (some ⟨b, off, none⟩)) 1).run Tryz.prog w = .ok (.pointer (some ⟨b, off + 1, none⟩)) w := by
  intro b off w
  simp [Instr.fieldAt, Instr.sureAddr, fieldPlace, Addr_add, Tryz.runUnderlying80, Tryz.sizeOf3, Result.andThen]
theorem fa_80_2 : ∀ b off w, (Instr.fieldAt 80 (.pointer (some ⟨b, off, none⟩)) 2).run Tryz.prog w = .ok (.pointer (some ⟨b, off + 2, none⟩)) w := by
  intro b off w
  simp [Instr.fieldAt, Instr.sureAddr, fieldPlace, Addr_add, Tryz.runUnderlying80, Tryz.sizeOf3, Result.andThen]
theorem fa_80_3 : ∀ b off w, (Instr.fieldAt 80 (.pointer (some ⟨b, off, none⟩)) 3).run Tryz.prog w = .ok (.pointer (some ⟨b, off + 3, none⟩)) w := by
  intro b off w
  simp [Instr.fieldAt, Instr.sureAddr, fieldPlace, Addr_add, Tryz.runUnderlying80, Tryz.sizeOf3, Result.andThen]
theorem fa_80_4 : ∀ b off w, (Instr.fieldAt 80 (.pointer (some ⟨b, off, none⟩)) 4).run Tryz.prog w = .ok (.pointer (some ⟨b, off + 4, none⟩)) w := by
  intro b off w
  simp [Instr.fieldAt, Instr.sureAddr, fieldPlace, Addr_add, Tryz.runUnderlying80, Tryz.sizeOf3, Result.andThen]
theorem fa_96_0 : ∀ b off w, (Instr.fieldAt 96 (.pointer (some ⟨b, off, none⟩)) 0).run Tryz.prog w = .ok (.pointer (some ⟨b, off + 0, none⟩)) w := by
  intro b off w
  simp [Instr.fieldAt, Instr.sureAddr, fieldPlace, Addr_add, Tryz.runUnderlying96, Tryz.sizeOf3, Result.andThen]
theorem fa_96_1 : ∀ b off w, (Instr.fieldAt 96 (.pointer (some ⟨b, off, none⟩)) 1).run Tryz.prog w = .ok (.pointer (some ⟨b, off + 1, none⟩)) w := by
  intro b off w
  simp [Instr.fieldAt, Instr.sureAddr, fieldPlace, Addr_add, Tryz.runUnderlying96, Tryz.sizeOf51, Result.andThen]
theorem fa_96_2 : ∀ b off w, (Instr.fieldAt 96 (.pointer (some ⟨b, off, none⟩)) 2).run Tryz.prog w = .ok (.pointer (some ⟨b, off + 4, none⟩)) w := by
  intro b off w
  simp [Instr.fieldAt, Instr.sureAddr, fieldPlace, Addr_add, Tryz.runUnderlying96, Tryz.sizeOf23, Result.andThen]
theorem fa_99_0 : ∀ b off w, (Instr.fieldAt 99 (.pointer (some ⟨b, off, none⟩)) 0).run Tryz.prog w = .ok (.pointer (some ⟨b, off + 0, none⟩)) w := by
  intro b off w
  simp [Instr.fieldAt, Instr.sureAddr, fieldPlace, Addr_add, Tryz.runUnderlying99, Tryz.sizeOf23, Result.andThen]
theorem fa_99_1 : ∀ b off w, (Instr.fieldAt 99 (.pointer (some ⟨b, off, none⟩)) 1).run Tryz.prog w = .ok (.pointer (some ⟨b, off + 1, none⟩)) w := by
  intro b off w
  simp [Instr.fieldAt, Instr.sureAddr, fieldPlace, Addr_add, Tryz.runUnderlying99, Tryz.sizeOf3, Result.andThen]
theorem fa_99_2 : ∀ b off w, (Instr.fieldAt 99 (.pointer (some ⟨b, off, none⟩)) 2).run Tryz.prog w = .ok (.pointer (some ⟨b, off + 2, none⟩)) w := by
  intro b off w
  simp [Instr.fieldAt, Instr.sureAddr, fieldPlace, Addr_add, Tryz.runUnderlying99, Tryz.sizeOf97, Result.andThen]
theorem fa_105_0 : ∀ b off w, (Instr.fieldAt 105 (.pointer (some ⟨b, off, none⟩)) 0).run Tryz.prog w = .ok (.pointer (some ⟨b, off + 0, none⟩)) w := by
  intro b off w
  simp [Instr.fieldAt, Instr.sureAddr, fieldPlace, Addr_add, Tryz.runUnderlying105, Tryz.sizeOf3, Result.andThen]
theorem fa_105_1 : ∀ b off w, (Instr.fieldAt 105 (.pointer (some ⟨b, off, none⟩)) 1).run Tryz.prog w = .ok (.pointer (some ⟨b, off + 1, none⟩)) w := by
  intro b off w
  simp [Instr.fieldAt, Instr.sureAddr, fieldPlace, Addr_add, Tryz.runUnderlying105, Tryz.sizeOf23, Result.andThen]
theorem fa_105_2 : ∀ b off w, (Instr.fieldAt 105 (.pointer (some ⟨b, off, none⟩)) 2).run Tryz.prog w = .ok (.pointer (some ⟨b, off + 2, none⟩)) w := by
  intro b off w
  simp [Instr.fieldAt, Instr.sureAddr, fieldPlace, Addr_add, Tryz.runUnderlying105, Tryz.sizeOf23, Result.andThen]
theorem fa_105_3 : ∀ b off w, (Instr.fieldAt 105 (.pointer (some ⟨b, off, none⟩)) 3).run Tryz.prog w = .ok (.pointer (some ⟨b, off + 3, none⟩)) w := by
  intro b off w
  simp [Instr.fieldAt, Instr.sureAddr, fieldPlace, Addr_add, Tryz.runUnderlying105, Tryz.sizeOf4, Result.andThen]
theorem fa_122_0 : ∀ b off w, (Instr.fieldAt 122 (.pointer (some ⟨b, off, none⟩)) 0).run Tryz.prog w = .ok (.pointer (some ⟨b, off + 0, none⟩)) w := by
  intro b off w
  simp [Instr.fieldAt, Instr.sureAddr, fieldPlace, Addr_add, Tryz.runUnderlying122, Tryz.sizeOf38, Result.andThen]
theorem fa_122_1 : ∀ b off w, (Instr.fieldAt 122 (.pointer (some ⟨b, off, none⟩)) 1).run Tryz.prog w = .ok (.pointer (some ⟨b, off + 5, none⟩)) w := by
  intro b off w
  simp [Instr.fieldAt, Instr.sureAddr, fieldPlace, Addr_add, Tryz.runUnderlying122, Tryz.sizeOf3, Result.andThen]
theorem fa_122_4 : ∀ b off w, (Instr.fieldAt 122 (.pointer (some ⟨b, off, none⟩)) 4).run Tryz.prog w = .ok (.pointer (some ⟨b, off + 9, none⟩)) w := by
  intro b off w
  simp [Instr.fieldAt, Instr.sureAddr, fieldPlace, Addr_add, Tryz.runUnderlying122, Tryz.sizeOf3, Result.andThen]
theorem fa_127_0 : ∀ b off w, (Instr.fieldAt 127 (.pointer (some ⟨b, off, none⟩)) 0).run Tryz.prog w = .ok (.pointer (some ⟨b, off + 0, none⟩)) w := by
  intro b off w
  simp [Instr.fieldAt, Instr.sureAddr, fieldPlace, Addr_add, Tryz.runUnderlying127, Tryz.sizeOf35, Result.andThen]
theorem fa_127_1 : ∀ b off w, (Instr.fieldAt 127 (.pointer (some ⟨b, off, none⟩)) 1).run Tryz.prog w = .ok (.pointer (some ⟨b, off + 1, none⟩)) w := by
  intro b off w
  simp [Instr.fieldAt, Instr.sureAddr, fieldPlace, Addr_add, Tryz.runUnderlying127, Tryz.sizeOf54, Result.andThen]
theorem fa_127_2 : ∀ b off w, (Instr.fieldAt 127 (.pointer (some ⟨b, off, none⟩)) 2).run Tryz.prog w = .ok (.pointer (some ⟨b, off + 5, none⟩)) w := by
  intro b off w
  simp [Instr.fieldAt, Instr.sureAddr, fieldPlace, Addr_add, Tryz.runUnderlying127, Tryz.sizeOf3, Result.andThen]
theorem fa_127_3 : ∀ b off w, (Instr.fieldAt 127 (.pointer (some ⟨b, off, none⟩)) 3).run Tryz.prog w = .ok (.pointer (some ⟨b, off + 6, none⟩)) w := by
  intro b off w
  simp [Instr.fieldAt, Instr.sureAddr, fieldPlace, Addr_add, Tryz.runUnderlying127, Tryz.sizeOf23, Result.andThen]
theorem fa_127_4 : ∀ b off w, (Instr.fieldAt 127 (.pointer (some ⟨b, off, none⟩)) 4).run Tryz.prog w = .ok (.pointer (some ⟨b, off + 7, none⟩)) w := by
  intro b off w
  simp [Instr.fieldAt, Instr.sureAddr, fieldPlace, Addr_add, Tryz.runUnderlying127, Tryz.sizeOf4, Result.andThen]
theorem fa_127_5 : ∀ b off w, (Instr.fieldAt 127 (.pointer (some ⟨b, off, none⟩)) 5).run Tryz.prog w = .ok (.pointer (some ⟨b, off + 8, none⟩)) w := by
  intro b off w
  simp [Instr.fieldAt, Instr.sureAddr, fieldPlace, Addr_add, Tryz.runUnderlying127, Tryz.sizeOf3, Result.andThen]
theorem fa_127_6 : ∀ b off w, (Instr.fieldAt 127 (.pointer (some ⟨b, off, none⟩)) 6).run Tryz.prog w = .ok (.pointer (some ⟨b, off + 9, none⟩)) w := by
  intro b off w
  simp [Instr.fieldAt, Instr.sureAddr, fieldPlace, Addr_add, Tryz.runUnderlying127, Tryz.sizeOf69, Result.andThen]
theorem fa_127_7 : ∀ b off w, (Instr.fieldAt 127 (.pointer (some ⟨b, off, none⟩)) 7).run Tryz.prog w = .ok (.pointer (some ⟨b, off + 12, none⟩)) w := by
  intro b off w
  simp [Instr.fieldAt, Instr.sureAddr, fieldPlace, Addr_add, Tryz.runUnderlying127, Tryz.sizeOf69, Result.andThen]
theorem fa_127_8 : ∀ b off w, (Instr.fieldAt 127 (.pointer (some ⟨b, off, none⟩)) 8).run Tryz.prog w = .ok (.pointer (some ⟨b, off + 15, none⟩)) w := by
  intro b off w
  simp [Instr.fieldAt, Instr.sureAddr, fieldPlace, Addr_add, Tryz.runUnderlying127, Tryz.sizeOf69, Result.andThen]
theorem fa_127_9 : ∀ b off w, (Instr.fieldAt 127 (.pointer (some ⟨b, off, none⟩)) 9).run Tryz.prog w = .ok (.pointer (some ⟨b, off + 18, none⟩)) w := by
  intro b off w
  simp [Instr.fieldAt, Instr.sureAddr, fieldPlace, Addr_add, Tryz.runUnderlying127, Tryz.sizeOf69, Result.andThen]
theorem fa_127_10 : ∀ b off w, (Instr.fieldAt 127 (.pointer (some ⟨b, off, none⟩)) 10).run Tryz.prog w = .ok (.pointer (some ⟨b, off + 21, none⟩)) w := by
  intro b off w
  simp [Instr.fieldAt, Instr.sureAddr, fieldPlace, Addr_add, Tryz.runUnderlying127, Tryz.sizeOf65, Result.andThen]
theorem fa_127_11 : ∀ b off w, (Instr.fieldAt 127 (.pointer (some ⟨b, off, none⟩)) 11).run Tryz.prog w = .ok (.pointer (some ⟨b, off + 23, none⟩)) w := by
  intro b off w
  simp [Instr.fieldAt, Instr.sureAddr, fieldPlace, Addr_add, Tryz.runUnderlying127, Tryz.sizeOf4, Result.andThen]
theorem fa_137_0 : ∀ b off w, (Instr.fieldAt 137 (.pointer (some ⟨b, off, none⟩)) 0).run Tryz.prog w = .ok (.pointer (some ⟨b, off + 0, none⟩)) w := by
  intro b off w
  simp [Instr.fieldAt, Instr.sureAddr, fieldPlace, Addr_add, Tryz.runUnderlying137, Tryz.sizeOf35, Result.andThen]
theorem fa_137_1 : ∀ b off w, (Instr.fieldAt 137 (.pointer (some ⟨b, off, none⟩)) 1).run Tryz.prog w = .ok (.pointer (some ⟨b, off + 1, none⟩)) w := by
  intro b off w
  simp [Instr.fieldAt, Instr.sureAddr, fieldPlace, Addr_add, Tryz.runUnderlying137, Tryz.sizeOf3, Result.andThen]
theorem fa_137_2 : ∀ b off w, (Instr.fieldAt 137 (.pointer (some ⟨b, off, none⟩)) 2).run Tryz.prog w = .ok (.pointer (some ⟨b, off + 2, none⟩)) w := by
  intro b off w
  simp [Instr.fieldAt, Instr.sureAddr, fieldPlace, Addr_add, Tryz.runUnderlying137, Tryz.sizeOf23, Result.andThen]
theorem fa_137_3 : ∀ b off w, (Instr.fieldAt 137 (.pointer (some ⟨b, off, none⟩)) 3).run Tryz.prog w = .ok (.pointer (some ⟨b, off + 3, none⟩)) w := by
  intro b off w
  simp [Instr.fieldAt, Instr.sureAddr, fieldPlace, Addr_add, Tryz.runUnderlying137, Tryz.sizeOf4, Result.andThen]
theorem fa_137_4 : ∀ b off w, (Instr.fieldAt 137 (.pointer (some ⟨b, off, none⟩)) 4).run Tryz.prog w = .ok (.pointer (some ⟨b, off + 4, none⟩)) w := by
  intro b off w
  simp [Instr.fieldAt, Instr.sureAddr, fieldPlace, Addr_add, Tryz.runUnderlying137, Tryz.sizeOf48, Result.andThen]
theorem fa_137_5 : ∀ b off w, (Instr.fieldAt 137 (.pointer (some ⟨b, off, none⟩)) 5).run Tryz.prog w = .ok (.pointer (some ⟨b, off + 5, none⟩)) w := by
  intro b off w
  simp [Instr.fieldAt, Instr.sureAddr, fieldPlace, Addr_add, Tryz.runUnderlying137, Tryz.sizeOf4, Result.andThen]
theorem fa_140_0 : ∀ b off w, (Instr.fieldAt 140 (.pointer (some ⟨b, off, none⟩)) 0).run Tryz.prog w = .ok (.pointer (some ⟨b, off + 0, none⟩)) w := by
  intro b off w
  simp [Instr.fieldAt, Instr.sureAddr, fieldPlace, Addr_add, Tryz.runUnderlying140, Tryz.sizeOf3, Result.andThen]
theorem fa_140_1 : ∀ b off w, (Instr.fieldAt 140 (.pointer (some ⟨b, off, none⟩)) 1).run Tryz.prog w = .ok (.pointer (some ⟨b, off + 1, none⟩)) w := by
  intro b off w
  simp [Instr.fieldAt, Instr.sureAddr, fieldPlace, Addr_add, Tryz.runUnderlying140, Tryz.sizeOf23, Result.andThen]
theorem fa_140_2 : ∀ b off w, (Instr.fieldAt 140 (.pointer (some ⟨b, off, none⟩)) 2).run Tryz.prog w = .ok (.pointer (some ⟨b, off + 2, none⟩)) w := by
  intro b off w
  simp [Instr.fieldAt, Instr.sureAddr, fieldPlace, Addr_add, Tryz.runUnderlying140, Tryz.sizeOf3, Result.andThen]
theorem fa_140_3 : ∀ b off w, (Instr.fieldAt 140 (.pointer (some ⟨b, off, none⟩)) 3).run Tryz.prog w = .ok (.pointer (some ⟨b, off + 3, none⟩)) w := by
  intro b off w
  simp [Instr.fieldAt, Instr.sureAddr, fieldPlace, Addr_add, Tryz.runUnderlying140, Tryz.sizeOf3, Result.andThen]
theorem fa_143_0 : ∀ b off w, (Instr.fieldAt 143 (.pointer (some ⟨b, off, none⟩)) 0).run Tryz.prog w = .ok (.pointer (some ⟨b, off + 0, none⟩)) w := by
  intro b off w
  simp [Instr.fieldAt, Instr.sureAddr, fieldPlace, Addr_add, Tryz.runUnderlying143, Tryz.sizeOf35, Result.andThen]
theorem fa_143_1 : ∀ b off w, (Instr.fieldAt 143 (.pointer (some ⟨b, off, none⟩)) 1).run Tryz.prog w = .ok (.pointer (some ⟨b, off + 1, none⟩)) w := by
  intro b off w
  simp [Instr.fieldAt, Instr.sureAddr, fieldPlace, Addr_add, Tryz.runUnderlying143, Tryz.sizeOf23, Result.andThen]
theorem fa_143_2 : ∀ b off w, (Instr.fieldAt 143 (.pointer (some ⟨b, off, none⟩)) 2).run Tryz.prog w = .ok (.pointer (some ⟨b, off + 2, none⟩)) w := by
  intro b off w
  simp [Instr.fieldAt, Instr.sureAddr, fieldPlace, Addr_add, Tryz.runUnderlying143, Tryz.sizeOf141, Result.andThen]
theorem fa_143_3 : ∀ b off w, (Instr.fieldAt 143 (.pointer (some ⟨b, off, none⟩)) 3).run Tryz.prog w = .ok (.pointer (some ⟨b, off + 3, none⟩)) w := by
  intro b off w
  simp [Instr.fieldAt, Instr.sureAddr, fieldPlace, Addr_add, Tryz.runUnderlying143, Tryz.sizeOf3, Result.andThen]
theorem fa_147_0 : ∀ b off w, (Instr.fieldAt 147 (.pointer (some ⟨b, off, none⟩)) 0).run Tryz.prog w = .ok (.pointer (some ⟨b, off + 0, none⟩)) w := by
  intro b off w
  simp [Instr.fieldAt, Instr.sureAddr, fieldPlace, Addr_add, Tryz.runUnderlying147, Tryz.sizeOf51, Result.andThen]
theorem fa_147_1 : ∀ b off w, (Instr.fieldAt 147 (.pointer (some ⟨b, off, none⟩)) 1).run Tryz.prog w = .ok (.pointer (some ⟨b, off + 3, none⟩)) w := by
  intro b off w
  simp [Instr.fieldAt, Instr.sureAddr, fieldPlace, Addr_add, Tryz.runUnderlying147, Tryz.sizeOf23, Result.andThen]
theorem fa_150_0 : ∀ b off w, (Instr.fieldAt 150 (.pointer (some ⟨b, off, none⟩)) 0).run Tryz.prog w = .ok (.pointer (some ⟨b, off + 0, none⟩)) w := by
  intro b off w
  simp [Instr.fieldAt, Instr.sureAddr, fieldPlace, Addr_add, Tryz.runUnderlying150, Tryz.sizeOf4, Result.andThen]
theorem fa_150_1 : ∀ b off w, (Instr.fieldAt 150 (.pointer (some ⟨b, off, none⟩)) 1).run Tryz.prog w = .ok (.pointer (some ⟨b, off + 1, none⟩)) w := by
  intro b off w
  simp [Instr.fieldAt, Instr.sureAddr, fieldPlace, Addr_add, Tryz.runUnderlying150, Tryz.sizeOf3, Result.andThen]
theorem fa_150_2 : ∀ b off w, (Instr.fieldAt 150 (.pointer (some ⟨b, off, none⟩)) 2).run Tryz.prog w = .ok (.pointer (some ⟨b, off + 2, none⟩)) w := by
  intro b off w
  simp [Instr.fieldAt, Instr.sureAddr, fieldPlace, Addr_add, Tryz.runUnderlying150, Tryz.sizeOf3, Result.andThen]
theorem fa_153_0 : ∀ b off w, (Instr.fieldAt 153 (.pointer (some ⟨b, off, none⟩)) 0).run Tryz.prog w = .ok (.pointer (some ⟨b, off + 0, none⟩)) w := by
  intro b off w
  simp [Instr.fieldAt, Instr.sureAddr, fieldPlace, Addr_add, Tryz.runUnderlying153, Tryz.sizeOf134, Result.andThen]
theorem fa_160_0 : ∀ b off w, (Instr.fieldAt 160 (.pointer (some ⟨b, off, none⟩)) 0).run Tryz.prog w = .ok (.pointer (some ⟨b, off + 0, none⟩)) w := by
  intro b off w
  simp [Instr.fieldAt, Instr.sureAddr, fieldPlace, Addr_add, Tryz.runUnderlying160, Tryz.sizeOf158, Result.andThen]
theorem fa_160_1 : ∀ b off w, (Instr.fieldAt 160 (.pointer (some ⟨b, off, none⟩)) 1).run Tryz.prog w = .ok (.pointer (some ⟨b, off + 1, none⟩)) w := by
  intro b off w
  simp [Instr.fieldAt, Instr.sureAddr, fieldPlace, Addr_add, Tryz.runUnderlying160, Tryz.sizeOf23, Result.andThen]
theorem fa_160_2 : ∀ b off w, (Instr.fieldAt 160 (.pointer (some ⟨b, off, none⟩)) 2).run Tryz.prog w = .ok (.pointer (some ⟨b, off + 2, none⟩)) w := by
  intro b off w
  simp [Instr.fieldAt, Instr.sureAddr, fieldPlace, Addr_add, Tryz.runUnderlying160, Tryz.sizeOf23, Result.andThen]
theorem fa_176_0 : ∀ b off w, (Instr.fieldAt 176 (.pointer (some ⟨b, off, none⟩)) 0).run Tryz.prog w = .ok (.pointer (some ⟨b, off + 0, none⟩)) w := by
  intro b off w
  simp [Instr.fieldAt, Instr.sureAddr, fieldPlace, Addr_add, Tryz.runUnderlying176, Tryz.sizeOf174, Result.andThen]
theorem fa_176_1 : ∀ b off w, (Instr.fieldAt 176 (.pointer (some ⟨b, off, none⟩)) 1).run Tryz.prog w = .ok (.pointer (some ⟨b, off + 1, none⟩)) w := by
  intro b off w
  simp [Instr.fieldAt, Instr.sureAddr, fieldPlace, Addr_add, Tryz.runUnderlying176, Tryz.sizeOf80, Result.andThen]
theorem fa_193_0 : ∀ b off w, (Instr.fieldAt 193 (.pointer (some ⟨b, off, none⟩)) 0).run Tryz.prog w = .ok (.pointer (some ⟨b, off + 0, none⟩)) w := by
  intro b off w
  simp [Instr.fieldAt, Instr.sureAddr, fieldPlace, Addr_add, Tryz.runUnderlying193, Tryz.sizeOf4, Result.andThen]
theorem fa_193_1 : ∀ b off w, (Instr.fieldAt 193 (.pointer (some ⟨b, off, none⟩)) 1).run Tryz.prog w = .ok (.pointer (some ⟨b, off + 1, none⟩)) w := by
  intro b off w
  simp [Instr.fieldAt, Instr.sureAddr, fieldPlace, Addr_add, Tryz.runUnderlying193, Tryz.sizeOf3, Result.andThen]
theorem fa_193_2 : ∀ b off w, (Instr.fieldAt 193 (.pointer (some ⟨b, off, none⟩)) 2).run Tryz.prog w = .ok (.pointer (some ⟨b, off + 2, none⟩)) w := by
  intro b off w
  simp [Instr.fieldAt, Instr.sureAddr, fieldPlace, Addr_add, Tryz.runUnderlying193, Tryz.sizeOf3, Result.andThen]
theorem fa_217_0 : ∀ b off w, (Instr.fieldAt 217 (.pointer (some ⟨b, off, none⟩)) 0).run Tryz.prog w = .ok (.pointer (some ⟨b, off + 0, none⟩)) w := by
  intro b off w
  simp [Instr.fieldAt, Instr.sureAddr, fieldPlace, Addr_add, Tryz.runUnderlying217, Tryz.sizeOf3, Result.andThen]
theorem fa_217_1 : ∀ b off w, (Instr.fieldAt 217 (.pointer (some ⟨b, off, none⟩)) 1).run Tryz.prog w = .ok (.pointer (some ⟨b, off + 1, none⟩)) w := by
  intro b off w
  simp [Instr.fieldAt, Instr.sureAddr, fieldPlace, Addr_add, Tryz.runUnderlying217, Tryz.sizeOf3, Result.andThen]
theorem fd_38_0 {cs : Array Value} {v : Value} (h : cs[0]? = some v) : ∀ w, (Instr.field 38 (.agg cs) 0).run Tryz.prog w = .ok v w := by
  intro w
  simp [Instr.field, part, asAgg, Tryz.runUnderlying38, Tryz.isAgg3, h, Result.andThen]
theorem fd_38_3 {cs : Array Value} {v : Value} (h : cs[3]? = some v) : ∀ w, (Instr.field 38 (.agg cs) 3).run Tryz.prog w = .ok v w := by
  intro w
  simp [Instr.field, part, asAgg, Tryz.runUnderlying38, Tryz.isAgg3, h, Result.andThen]
theorem fd_54_0 {cs : Array Value} {vs : Array Value} (h : cs.extract 0 (0 + 3) = vs) : ∀ w, (Instr.field 54 (.agg cs) 0).run Tryz.prog w = .ok (.agg vs) w := by
  intro w
  subst h
  simp [Instr.field, part, asAgg, Tryz.runUnderlying54, Tryz.isAgg51, Tryz.sizeOf51, Result.andThen]
theorem fd_65_0 {cs : Array Value} {v : Value} (h : cs[0]? = some v) : ∀ w, (Instr.field 65 (.agg cs) 0).run Tryz.prog w = .ok v w := by
  intro w
  simp [Instr.field, part, asAgg, Tryz.runUnderlying65, Tryz.isAgg3, h, Result.andThen]
theorem fd_69_0 {cs : Array Value} {v : Value} (h : cs[0]? = some v) : ∀ w, (Instr.field 69 (.agg cs) 0).run Tryz.prog w = .ok v w := by
  intro w
  simp [Instr.field, part, asAgg, Tryz.runUnderlying69, Tryz.isAgg23, h, Result.andThen]
theorem fd_150_0 {cs : Array Value} {v : Value} (h : cs[0]? = some v) : ∀ w, (Instr.field 150 (.agg cs) 0).run Tryz.prog w = .ok v w := by
  intro w
  simp [Instr.field, part, asAgg, Tryz.runUnderlying150, Tryz.isAgg4, h, Result.andThen]
theorem fd_150_1 {cs : Array Value} {v : Value} (h : cs[1]? = some v) : ∀ w, (Instr.field 150 (.agg cs) 1).run Tryz.prog w = .ok v w := by
  intro w
  simp [Instr.field, part, asAgg, Tryz.runUnderlying150, Tryz.isAgg3, h, Result.andThen]
theorem fd_193_1 {cs : Array Value} {v : Value} (h : cs[1]? = some v) : ∀ w, (Instr.field 193 (.agg cs) 1).run Tryz.prog w = .ok v w := by
  intro w
  simp [Instr.field, part, asAgg, Tryz.runUnderlying193, Tryz.isAgg3, h, Result.andThen]
theorem mki_33 : ∀ w v, (Instr.makeInterface 33 v).run Tryz.prog w = .ok (.iface 33 v) w := by
  intro w v
  simp [Instr.makeInterface, Tryz.runUnderlying33, Result.andThen]
theorem mki_174 : ∀ w v, (Instr.makeInterface 174 v).run Tryz.prog w = .ok (.iface 174 v) w := by
  intro w v
  simp [Instr.makeInterface, Tryz.runUnderlying174, Result.andThen]
theorem bld_29 {ps : List (Nat × Value)} {cs : List Value} (h : fillL (fun i => ([(0, 1)] : List (Nat × Nat))[i]?) ((Tryz.t29.zero.getD undef).cells).toList ps = some cs) : ∀ w, (Instr.build 29 ps.toArray).run Tryz.prog w = .ok (.agg cs.toArray) w := by
  intro w
  have h := fill_list _ _ _ _ h
  have hz : (zeroValue 29).run Tryz.prog w = .ok (Tryz.t29.zero.getD undef) w := by first | exact Tryz.zeroValue29 w | (rw [Tryz.zeroValue29]; rfl)
  simp [Instr.build, hz, Tryz.runUnderlying29, Tryz.sizeOf27, Result.andThen, h]
theorem bld_38 {ps : List (Nat × Value)} {cs : List Value} (h : fillL (fun i => ([(0, 1), (1, 1), (2, 1), (3, 1), (4, 1)] : List (Nat × Nat))[i]?) ((Tryz.t38.zero.getD undef).cells).toList ps = some cs) : ∀ w, (Instr.build 38 ps.toArray).run Tryz.prog w = .ok (.agg cs.toArray) w := by
  intro w
  have h := fill_list _ _ _ _ h
  have hz : (zeroValue 38).run Tryz.prog w = .ok (Tryz.t38.zero.getD undef) w := by first | exact Tryz.zeroValue38 w | (rw [Tryz.zeroValue38]; rfl)
  simp [Instr.build, hz, Tryz.runUnderlying38, Tryz.sizeOf3, Result.andThen, h]
theorem bld_45 {ps : List (Nat × Value)} {cs : List Value} (h : fillL (fun i => ([(0, 5), (5, 1), (6, 2), (8, 1), (9, 1)] : List (Nat × Nat))[i]?) ((Tryz.t45.zero.getD undef).cells).toList ps = some cs) : ∀ w, (Instr.build 45 ps.toArray).run Tryz.prog w = .ok (.agg cs.toArray) w := by
  intro w
  have h := fill_list _ _ _ _ h
  have hz : (zeroValue 45).run Tryz.prog w = .ok (Tryz.t45.zero.getD undef) w := by first | exact Tryz.zeroValue45 w | (rw [Tryz.zeroValue45]; rfl)
  simp [Instr.build, hz, Tryz.runUnderlying45, Tryz.sizeOf3, Tryz.sizeOf38, Tryz.sizeOf43, Result.andThen, h]
theorem bld_51 {ps : List (Nat × Value)} {cs : List Value} (h : fillL (fun i => ([(0, 1), (1, 1), (2, 1)] : List (Nat × Nat))[i]?) ((Tryz.t51.zero.getD undef).cells).toList ps = some cs) : ∀ w, (Instr.build 51 ps.toArray).run Tryz.prog w = .ok (.agg cs.toArray) w := by
  intro w
  have h := fill_list _ _ _ _ h
  have hz : (zeroValue 51).run Tryz.prog w = .ok (Tryz.t51.zero.getD undef) w := by first | exact Tryz.zeroValue51 w | (rw [Tryz.zeroValue51]; rfl)
  simp [Instr.build, hz, Tryz.runUnderlying51, Tryz.sizeOf3, Result.andThen, h]
theorem bld_54 {ps : List (Nat × Value)} {cs : List Value} (h : fillL (fun i => ([(0, 3), (3, 1)] : List (Nat × Nat))[i]?) ((Tryz.t54.zero.getD undef).cells).toList ps = some cs) : ∀ w, (Instr.build 54 ps.toArray).run Tryz.prog w = .ok (.agg cs.toArray) w := by
  intro w
  have h := fill_list _ _ _ _ h
  have hz : (zeroValue 54).run Tryz.prog w = .ok (Tryz.t54.zero.getD undef) w := by first | exact Tryz.zeroValue54 w | (rw [Tryz.zeroValue54]; rfl)
  simp [Instr.build, hz, Tryz.runUnderlying54, Tryz.sizeOf3, Tryz.sizeOf51, Result.andThen, h]
theorem bld_57 {ps : List (Nat × Value)} {cs : List Value} (h : fillL (fun i => ([(0, 3), (3, 1), (4, 1), (5, 1), (6, 1), (7, 1), (8, 1), (9, 1), (10, 1), (11, 1), (12, 1)] : List (Nat × Nat))[i]?) ((Tryz.t57.zero.getD undef).cells).toList ps = some cs) : ∀ w, (Instr.build 57 ps.toArray).run Tryz.prog w = .ok (.agg cs.toArray) w := by
  intro w
  have h := fill_list _ _ _ _ h
  have hz : (zeroValue 57).run Tryz.prog w = .ok (Tryz.t57.zero.getD undef) w := by first | exact Tryz.zeroValue57 w | (rw [Tryz.zeroValue57]; rfl)
  simp [Instr.build, hz, Tryz.runUnderlying57, Tryz.sizeOf23, Tryz.sizeOf3, Tryz.sizeOf4, Tryz.sizeOf51, Result.andThen, h]
theorem bld_65 {ps : List (Nat × Value)} {cs : List Value} (h : fillL (fun i => ([(0, 1), (1, 1)] : List (Nat × Nat))[i]?) ((Tryz.t65.zero.getD undef).cells).toList ps = some cs) : ∀ w, (Instr.build 65 ps.toArray).run Tryz.prog w = .ok (.agg cs.toArray) w := by
  intro w
  have h := fill_list _ _ _ _ h
  have hz : (zeroValue 65).run Tryz.prog w = .ok (Tryz.t65.zero.getD undef) w := by first | exact Tryz.zeroValue65 w | (rw [Tryz.zeroValue65]; rfl)
  simp [Instr.build, hz, Tryz.runUnderlying65, Tryz.sizeOf3, Result.andThen, h]
theorem bld_69 {ps : List (Nat × Value)} {cs : List Value} (h : fillL (fun i => ([(0, 1), (1, 1), (2, 1)] : List (Nat × Nat))[i]?) ((Tryz.t69.zero.getD undef).cells).toList ps = some cs) : ∀ w, (Instr.build 69 ps.toArray).run Tryz.prog w = .ok (.agg cs.toArray) w := by
  intro w
  have h := fill_list _ _ _ _ h
  have hz : (zeroValue 69).run Tryz.prog w = .ok (Tryz.t69.zero.getD undef) w := by first | exact Tryz.zeroValue69 w | (rw [Tryz.zeroValue69]; rfl)
  simp [Instr.build, hz, Tryz.runUnderlying69, Tryz.sizeOf23, Tryz.sizeOf3, Tryz.sizeOf4, Result.andThen, h]
theorem bld_77 {ps : List (Nat × Value)} {cs : List Value} (h : fillL (fun i => ([(0, 1), (1, 1), (2, 1), (3, 1), (4, 1)] : List (Nat × Nat))[i]?) ((Tryz.t77.zero.getD undef).cells).toList ps = some cs) : ∀ w, (Instr.build 77 ps.toArray).run Tryz.prog w = .ok (.agg cs.toArray) w := by
  intro w
  have h := fill_list _ _ _ _ h
  have hz : (zeroValue 77).run Tryz.prog w = .ok (Tryz.t77.zero.getD undef) w := by first | exact Tryz.zeroValue77 w | (rw [Tryz.zeroValue77]; rfl)
  simp [Instr.build, hz, Tryz.runUnderlying77, Tryz.sizeOf23, Tryz.sizeOf3, Tryz.sizeOf4, Tryz.sizeOf55, Result.andThen, h]
theorem bld_80 {ps : List (Nat × Value)} {cs : List Value} (h : fillL (fun i => ([(0, 1), (1, 1), (2, 1), (3, 1), (4, 1)] : List (Nat × Nat))[i]?) ((Tryz.t80.zero.getD undef).cells).toList ps = some cs) : ∀ w, (Instr.build 80 ps.toArray).run Tryz.prog w = .ok (.agg cs.toArray) w := by
  intro w
  have h := fill_list _ _ _ _ h
  have hz : (zeroValue 80).run Tryz.prog w = .ok (Tryz.t80.zero.getD undef) w := by first | exact Tryz.zeroValue80 w | (rw [Tryz.zeroValue80]; rfl)
  simp [Instr.build, hz, Tryz.runUnderlying80, Tryz.sizeOf3, Result.andThen, h]
theorem bld_99 {ps : List (Nat × Value)} {cs : List Value} (h : fillL (fun i => ([(0, 1), (1, 1), (2, 208)] : List (Nat × Nat))[i]?) ((Tryz.t99.zero.getD undef).cells).toList ps = some cs) : ∀ w, (Instr.build 99 ps.toArray).run Tryz.prog w = .ok (.agg cs.toArray) w := by
  intro w
  have h := fill_list _ _ _ _ h
  have hz : (zeroValue 99).run Tryz.prog w = .ok (Tryz.t99.zero.getD undef) w := by first | exact Tryz.zeroValue99 w | (rw [Tryz.zeroValue99]; rfl)
  simp [Instr.build, hz, Tryz.runUnderlying99, Tryz.sizeOf23, Tryz.sizeOf3, Tryz.sizeOf97, Result.andThen, h]
theorem bld_105 {ps : List (Nat × Value)} {cs : List Value} (h : fillL (fun i => ([(0, 1), (1, 1), (2, 1), (3, 1)] : List (Nat × Nat))[i]?) ((Tryz.t105.zero.getD undef).cells).toList ps = some cs) : ∀ w, (Instr.build 105 ps.toArray).run Tryz.prog w = .ok (.agg cs.toArray) w := by
  intro w
  have h := fill_list _ _ _ _ h
  have hz : (zeroValue 105).run Tryz.prog w = .ok (Tryz.t105.zero.getD undef) w := by first | exact Tryz.zeroValue105 w | (rw [Tryz.zeroValue105]; rfl)
  simp [Instr.build, hz, Tryz.runUnderlying105, Tryz.sizeOf23, Tryz.sizeOf3, Tryz.sizeOf4, Result.andThen, h]
-- build of another type: 111
theorem bld_122 {ps : List (Nat × Value)} {cs : List Value} (h : fillL (fun i => ([(0, 5), (5, 1), (6, 1), (7, 2), (9, 1)] : List (Nat × Nat))[i]?) ((Tryz.t122.zero.getD undef).cells).toList ps = some cs) : ∀ w, (Instr.build 122 ps.toArray).run Tryz.prog w = .ok (.agg cs.toArray) w := by
  intro w
  have h := fill_list _ _ _ _ h
  have hz : (zeroValue 122).run Tryz.prog w = .ok (Tryz.t122.zero.getD undef) w := by first | exact Tryz.zeroValue122 w | (rw [Tryz.zeroValue122]; rfl)
  simp [Instr.build, hz, Tryz.runUnderlying122, Tryz.sizeOf119, Tryz.sizeOf3, Tryz.sizeOf38, Tryz.sizeOf65, Result.andThen, h]
theorem bld_127 {ps : List (Nat × Value)} {cs : List Value} (h : fillL (fun i => ([(0, 1), (1, 4), (5, 1), (6, 1), (7, 1), (8, 1), (9, 3), (12, 3), (15, 3), (18, 3), (21, 2), (23, 1)] : List (Nat × Nat))[i]?) ((Tryz.t127.zero.getD undef).cells).toList ps = some cs) : ∀ w, (Instr.build 127 ps.toArray).run Tryz.prog w = .ok (.agg cs.toArray) w := by
  intro w
  have h := fill_list _ _ _ _ h
  have hz : (zeroValue 127).run Tryz.prog w = .ok (Tryz.t127.zero.getD undef) w := by first | exact Tryz.zeroValue127 w | (rw [Tryz.zeroValue127]; rfl)
  simp [Instr.build, hz, Tryz.runUnderlying127, Tryz.sizeOf23, Tryz.sizeOf3, Tryz.sizeOf35, Tryz.sizeOf4, Tryz.sizeOf54, Tryz.sizeOf65, Tryz.sizeOf69, Result.andThen, h]
theorem bld_137 {ps : List (Nat × Value)} {cs : List Value} (h : fillL (fun i => ([(0, 1), (1, 1), (2, 1), (3, 1), (4, 1), (5, 1)] : List (Nat × Nat))[i]?) ((Tryz.t137.zero.getD undef).cells).toList ps = some cs) : ∀ w, (Instr.build 137 ps.toArray).run Tryz.prog w = .ok (.agg cs.toArray) w := by
  intro w
  have h := fill_list _ _ _ _ h
  have hz : (zeroValue 137).run Tryz.prog w = .ok (Tryz.t137.zero.getD undef) w := by first | exact Tryz.zeroValue137 w | (rw [Tryz.zeroValue137]; rfl)
  simp [Instr.build, hz, Tryz.runUnderlying137, Tryz.sizeOf23, Tryz.sizeOf3, Tryz.sizeOf35, Tryz.sizeOf4, Tryz.sizeOf48, Result.andThen, h]
theorem bld_143 {ps : List (Nat × Value)} {cs : List Value} (h : fillL (fun i => ([(0, 1), (1, 1), (2, 1), (3, 1)] : List (Nat × Nat))[i]?) ((Tryz.t143.zero.getD undef).cells).toList ps = some cs) : ∀ w, (Instr.build 143 ps.toArray).run Tryz.prog w = .ok (.agg cs.toArray) w := by
  intro w
  have h := fill_list _ _ _ _ h
  have hz : (zeroValue 143).run Tryz.prog w = .ok (Tryz.t143.zero.getD undef) w := by first | exact Tryz.zeroValue143 w | (rw [Tryz.zeroValue143]; rfl)
  simp [Instr.build, hz, Tryz.runUnderlying143, Tryz.sizeOf141, Tryz.sizeOf23, Tryz.sizeOf3, Tryz.sizeOf35, Result.andThen, h]
theorem bld_147 {ps : List (Nat × Value)} {cs : List Value} (h : fillL (fun i => ([(0, 3), (3, 1)] : List (Nat × Nat))[i]?) ((Tryz.t147.zero.getD undef).cells).toList ps = some cs) : ∀ w, (Instr.build 147 ps.toArray).run Tryz.prog w = .ok (.agg cs.toArray) w := by
  intro w
  have h := fill_list _ _ _ _ h
  have hz : (zeroValue 147).run Tryz.prog w = .ok (Tryz.t147.zero.getD undef) w := by first | exact Tryz.zeroValue147 w | (rw [Tryz.zeroValue147]; rfl)
  simp [Instr.build, hz, Tryz.runUnderlying147, Tryz.sizeOf23, Tryz.sizeOf51, Result.andThen, h]
theorem bld_150 {ps : List (Nat × Value)} {cs : List Value} (h : fillL (fun i => ([(0, 1), (1, 1), (2, 1)] : List (Nat × Nat))[i]?) ((Tryz.t150.zero.getD undef).cells).toList ps = some cs) : ∀ w, (Instr.build 150 ps.toArray).run Tryz.prog w = .ok (.agg cs.toArray) w := by
  intro w
  have h := fill_list _ _ _ _ h
  have hz : (zeroValue 150).run Tryz.prog w = .ok (Tryz.t150.zero.getD undef) w := by first | exact Tryz.zeroValue150 w | (rw [Tryz.zeroValue150]; rfl)
  simp [Instr.build, hz, Tryz.runUnderlying150, Tryz.sizeOf3, Tryz.sizeOf4, Result.andThen, h]
theorem bld_153 {ps : List (Nat × Value)} {cs : List Value} (h : fillL (fun i => ([(0, 1)] : List (Nat × Nat))[i]?) ((Tryz.t153.zero.getD undef).cells).toList ps = some cs) : ∀ w, (Instr.build 153 ps.toArray).run Tryz.prog w = .ok (.agg cs.toArray) w := by
  intro w
  have h := fill_list _ _ _ _ h
  have hz : (zeroValue 153).run Tryz.prog w = .ok (Tryz.t153.zero.getD undef) w := by first | exact Tryz.zeroValue153 w | (rw [Tryz.zeroValue153]; rfl)
  simp [Instr.build, hz, Tryz.runUnderlying153, Tryz.sizeOf134, Result.andThen, h]
theorem bld_160 {ps : List (Nat × Value)} {cs : List Value} (h : fillL (fun i => ([(0, 1), (1, 1), (2, 1)] : List (Nat × Nat))[i]?) ((Tryz.t160.zero.getD undef).cells).toList ps = some cs) : ∀ w, (Instr.build 160 ps.toArray).run Tryz.prog w = .ok (.agg cs.toArray) w := by
  intro w
  have h := fill_list _ _ _ _ h
  have hz : (zeroValue 160).run Tryz.prog w = .ok (Tryz.t160.zero.getD undef) w := by first | exact Tryz.zeroValue160 w | (rw [Tryz.zeroValue160]; rfl)
  simp [Instr.build, hz, Tryz.runUnderlying160, Tryz.sizeOf158, Tryz.sizeOf23, Result.andThen, h]
theorem bld_176 {ps : List (Nat × Value)} {cs : List Value} (h : fillL (fun i => ([(0, 1), (1, 5)] : List (Nat × Nat))[i]?) ((Tryz.t176.zero.getD undef).cells).toList ps = some cs) : ∀ w, (Instr.build 176 ps.toArray).run Tryz.prog w = .ok (.agg cs.toArray) w := by
  intro w
  have h := fill_list _ _ _ _ h
  have hz : (zeroValue 176).run Tryz.prog w = .ok (Tryz.t176.zero.getD undef) w := by first | exact Tryz.zeroValue176 w | (rw [Tryz.zeroValue176]; rfl)
  simp [Instr.build, hz, Tryz.runUnderlying176, Tryz.sizeOf174, Tryz.sizeOf80, Result.andThen, h]
theorem bld_193 {ps : List (Nat × Value)} {cs : List Value} (h : fillL (fun i => ([(0, 1), (1, 1), (2, 1)] : List (Nat × Nat))[i]?) ((Tryz.t193.zero.getD undef).cells).toList ps = some cs) : ∀ w, (Instr.build 193 ps.toArray).run Tryz.prog w = .ok (.agg cs.toArray) w := by
  intro w
  have h := fill_list _ _ _ _ h
  have hz : (zeroValue 193).run Tryz.prog w = .ok (Tryz.t193.zero.getD undef) w := by first | exact Tryz.zeroValue193 w | (rw [Tryz.zeroValue193]; rfl)
  simp [Instr.build, hz, Tryz.runUnderlying193, Tryz.sizeOf3, Tryz.sizeOf4, Result.andThen, h]
theorem bld_217 {ps : List (Nat × Value)} {cs : List Value} (h : fillL (fun i => ([(0, 1), (1, 1)] : List (Nat × Nat))[i]?) ((Tryz.t217.zero.getD undef).cells).toList ps = some cs) : ∀ w, (Instr.build 217 ps.toArray).run Tryz.prog w = .ok (.agg cs.toArray) w := by
  intro w
  have h := fill_list _ _ _ _ h
  have hz : (zeroValue 217).run Tryz.prog w = .ok (Tryz.t217.zero.getD undef) w := by first | exact Tryz.zeroValue217 w | (rw [Tryz.zeroValue217]; rfl)
  simp [Instr.build, hz, Tryz.runUnderlying217, Tryz.sizeOf3, Result.andThen, h]
theorem eqc_51 {a0 b0 : Int} {a1 b1 : Int} {a2 b2 : Int} : ∀ w, (Op.equalIn 10000 51 (.agg #[.int .i64 a0, .int .i64 a1, .int .i64 a2]) (.agg #[.int .i64 b0, .int .i64 b1, .int .i64 b2])).run Tryz.prog w = .ok ((decide (a0 = b0) && (decide (a1 = b1) && decide (a2 = b2)))) w := by
  intro w
  by_cases h0 : a0 = b0
  case neg => simp [run_equalIn_agg, run_equalIn_int, run_equalIn_bool', Program.fieldsOf, Op.eqFields, part, Result.andThen, Tryz.isAgg3, Tryz.isAgg51, Tryz.runUnderlying3, Tryz.runUnderlying51, Tryz.sizeOf3, Tryz.sizeOf51, Tryz.stoodInHeld51, Tryz.underlying3, Tryz.underlying51, h0]
  subst h0
  by_cases h1 : a1 = b1
  case neg => simp [run_equalIn_agg, run_equalIn_int, run_equalIn_bool', Program.fieldsOf, Op.eqFields, part, Result.andThen, Tryz.isAgg3, Tryz.isAgg51, Tryz.runUnderlying3, Tryz.runUnderlying51, Tryz.sizeOf3, Tryz.sizeOf51, Tryz.stoodInHeld51, Tryz.underlying3, Tryz.underlying51, h1]
  subst h1
  by_cases h2 : a2 = b2
  case neg => simp [run_equalIn_agg, run_equalIn_int, run_equalIn_bool', Program.fieldsOf, Op.eqFields, part, Result.andThen, Tryz.isAgg3, Tryz.isAgg51, Tryz.runUnderlying3, Tryz.runUnderlying51, Tryz.sizeOf3, Tryz.sizeOf51, Tryz.stoodInHeld51, Tryz.underlying3, Tryz.underlying51, h2]
  subst h2
  simp [run_equalIn_agg, run_equalIn_int, run_equalIn_bool', Program.fieldsOf, Op.eqFields, part, Result.andThen, Tryz.isAgg3, Tryz.isAgg51, Tryz.runUnderlying3, Tryz.runUnderlying51, Tryz.sizeOf3, Tryz.sizeOf51, Tryz.stoodInHeld51, Tryz.underlying3, Tryz.underlying51]
theorem eql_51 {x y : Operand} {a0 b0 : Int} {a1 b1 : Int} {a2 b2 : Int} : ∀ w, (do eqGuard .eql 51 x y (.agg #[.int .i64 a0, .int .i64 a1, .int .i64 a2]) (.agg #[.int .i64 b0, .int .i64 b1, .int .i64 b2]); binOp .eql 51 (.agg #[.int .i64 a0, .int .i64 a1, .int .i64 a2]) (.agg #[.int .i64 b0, .int .i64 b1, .int .i64 b2]) : Sem Value).run Tryz.prog w = .ok (.bool (((decide (a0 = b0) && (decide (a1 = b1) && decide (a2 = b2)))))) w := by
  intro w
  simp only [Sem.run_bind, run_eqGuard_agg _ _ _ _ _ _ _ Tryz.eqGuardType51, Result.andThen_ok, run_eql_struct, run_neq_struct, eqc_51]
theorem neq_51 {x y : Operand} {a0 b0 : Int} {a1 b1 : Int} {a2 b2 : Int} : ∀ w, (do eqGuard .neq 51 x y (.agg #[.int .i64 a0, .int .i64 a1, .int .i64 a2]) (.agg #[.int .i64 b0, .int .i64 b1, .int .i64 b2]); binOp .neq 51 (.agg #[.int .i64 a0, .int .i64 a1, .int .i64 a2]) (.agg #[.int .i64 b0, .int .i64 b1, .int .i64 b2]) : Sem Value).run Tryz.prog w = .ok (.bool (!((decide (a0 = b0) && (decide (a1 = b1) && decide (a2 = b2)))))) w := by
  intro w
  simp only [Sem.run_bind, run_eqGuard_agg _ _ _ _ _ _ _ Tryz.eqGuardType51, Result.andThen_ok, run_eql_struct, run_neq_struct, eqc_51]
theorem eqc_54 {a0 b0 : Int} {a1 b1 : Int} {a2 b2 : Int} {a3 b3 : Int} : ∀ w, (Op.equalIn 10000 54 (.agg #[.int .i64 a0, .int .i64 a1, .int .i64 a2, .int .i64 a3]) (.agg #[.int .i64 b0, .int .i64 b1, .int .i64 b2, .int .i64 b3])).run Tryz.prog w = .ok ((decide (a0 = b0) && (decide (a1 = b1) && (decide (a2 = b2) && decide (a3 = b3))))) w := by
  intro w
  by_cases h0 : a0 = b0
  case neg => simp [run_equalIn_agg, run_equalIn_int, run_equalIn_bool', Program.fieldsOf, Op.eqFields, part, Result.andThen, Tryz.isAgg3, Tryz.isAgg51, Tryz.isAgg54, Tryz.runUnderlying3, Tryz.runUnderlying51, Tryz.runUnderlying54, Tryz.sizeOf3, Tryz.sizeOf51, Tryz.sizeOf54, Tryz.stoodInHeld51, Tryz.stoodInHeld54, Tryz.underlying3, Tryz.underlying51, Tryz.underlying54, h0]
  subst h0
  by_cases h1 : a1 = b1
  case neg => simp [run_equalIn_agg, run_equalIn_int, run_equalIn_bool', Program.fieldsOf, Op.eqFields, part, Result.andThen, Tryz.isAgg3, Tryz.isAgg51, Tryz.isAgg54, Tryz.runUnderlying3, Tryz.runUnderlying51, Tryz.runUnderlying54, Tryz.sizeOf3, Tryz.sizeOf51, Tryz.sizeOf54, Tryz.stoodInHeld51, Tryz.stoodInHeld54, Tryz.underlying3, Tryz.underlying51, Tryz.underlying54, h1]
  subst h1
  by_cases h2 : a2 = b2
  case neg => simp [run_equalIn_agg, run_equalIn_int, run_equalIn_bool', Program.fieldsOf, Op.eqFields, part, Result.andThen, Tryz.isAgg3, Tryz.isAgg51, Tryz.isAgg54, Tryz.runUnderlying3, Tryz.runUnderlying51, Tryz.runUnderlying54, Tryz.sizeOf3, Tryz.sizeOf51, Tryz.sizeOf54, Tryz.stoodInHeld51, Tryz.stoodInHeld54, Tryz.underlying3, Tryz.underlying51, Tryz.underlying54, h2]
  subst h2
  by_cases h3 : a3 = b3
  case neg => simp [run_equalIn_agg, run_equalIn_int, run_equalIn_bool', Program.fieldsOf, Op.eqFields, part, Result.andThen, Tryz.isAgg3, Tryz.isAgg51, Tryz.isAgg54, Tryz.runUnderlying3, Tryz.runUnderlying51, Tryz.runUnderlying54, Tryz.sizeOf3, Tryz.sizeOf51, Tryz.sizeOf54, Tryz.stoodInHeld51, Tryz.stoodInHeld54, Tryz.underlying3, Tryz.underlying51, Tryz.underlying54, h3]
  subst h3
  simp [run_equalIn_agg, run_equalIn_int, run_equalIn_bool', Program.fieldsOf, Op.eqFields, part, Result.andThen, Tryz.isAgg3, Tryz.isAgg51, Tryz.isAgg54, Tryz.runUnderlying3, Tryz.runUnderlying51, Tryz.runUnderlying54, Tryz.sizeOf3, Tryz.sizeOf51, Tryz.sizeOf54, Tryz.stoodInHeld51, Tryz.stoodInHeld54, Tryz.underlying3, Tryz.underlying51, Tryz.underlying54]
theorem eql_54 {x y : Operand} {a0 b0 : Int} {a1 b1 : Int} {a2 b2 : Int} {a3 b3 : Int} : ∀ w, (do eqGuard .eql 54 x y (.agg #[.int .i64 a0, .int .i64 a1, .int .i64 a2, .int .i64 a3]) (.agg #[.int .i64 b0, .int .i64 b1, .int .i64 b2, .int .i64 b3]); binOp .eql 54 (.agg #[.int .i64 a0, .int .i64 a1, .int .i64 a2, .int .i64 a3]) (.agg #[.int .i64 b0, .int .i64 b1, .int .i64 b2, .int .i64 b3]) : Sem Value).run Tryz.prog w = .ok (.bool (((decide (a0 = b0) && (decide (a1 = b1) && (decide (a2 = b2) && decide (a3 = b3))))))) w := by
  intro w
  simp only [Sem.run_bind, run_eqGuard_agg _ _ _ _ _ _ _ Tryz.eqGuardType54, Result.andThen_ok, run_eql_struct, run_neq_struct, eqc_54]
theorem neq_54 {x y : Operand} {a0 b0 : Int} {a1 b1 : Int} {a2 b2 : Int} {a3 b3 : Int} : ∀ w, (do eqGuard .neq 54 x y (.agg #[.int .i64 a0, .int .i64 a1, .int .i64 a2, .int .i64 a3]) (.agg #[.int .i64 b0, .int .i64 b1, .int .i64 b2, .int .i64 b3]); binOp .neq 54 (.agg #[.int .i64 a0, .int .i64 a1, .int .i64 a2, .int .i64 a3]) (.agg #[.int .i64 b0, .int .i64 b1, .int .i64 b2, .int .i64 b3]) : Sem Value).run Tryz.prog w = .ok (.bool (!((decide (a0 = b0) && (decide (a1 = b1) && (decide (a2 = b2) && decide (a3 = b3))))))) w := by
  intro w
  simp only [Sem.run_bind, run_eqGuard_agg _ _ _ _ _ _ _ Tryz.eqGuardType54, Result.andThen_ok, run_eql_struct, run_neq_struct, eqc_54]
theorem eqc_65 {a0 b0 : Int} {a1 b1 : Int} : ∀ w, (Op.equalIn 10000 65 (.agg #[.int .i64 a0, .int .i64 a1]) (.agg #[.int .i64 b0, .int .i64 b1])).run Tryz.prog w = .ok ((decide (a0 = b0) && decide (a1 = b1))) w := by
  intro w
  by_cases h0 : a0 = b0
  case neg => simp [run_equalIn_agg, run_equalIn_int, run_equalIn_bool', Program.fieldsOf, Op.eqFields, part, Result.andThen, Tryz.isAgg3, Tryz.isAgg65, Tryz.runUnderlying3, Tryz.runUnderlying65, Tryz.sizeOf3, Tryz.sizeOf65, Tryz.stoodInHeld65, Tryz.underlying3, Tryz.underlying65, h0]
  subst h0
  by_cases h1 : a1 = b1
  case neg => simp [run_equalIn_agg, run_equalIn_int, run_equalIn_bool', Program.fieldsOf, Op.eqFields, part, Result.andThen, Tryz.isAgg3, Tryz.isAgg65, Tryz.runUnderlying3, Tryz.runUnderlying65, Tryz.sizeOf3, Tryz.sizeOf65, Tryz.stoodInHeld65, Tryz.underlying3, Tryz.underlying65, h1]
  subst h1
  simp [run_equalIn_agg, run_equalIn_int, run_equalIn_bool', Program.fieldsOf, Op.eqFields, part, Result.andThen, Tryz.isAgg3, Tryz.isAgg65, Tryz.runUnderlying3, Tryz.runUnderlying65, Tryz.sizeOf3, Tryz.sizeOf65, Tryz.stoodInHeld65, Tryz.underlying3, Tryz.underlying65]
theorem eql_65 {x y : Operand} {a0 b0 : Int} {a1 b1 : Int} : ∀ w, (do eqGuard .eql 65 x y (.agg #[.int .i64 a0, .int .i64 a1]) (.agg #[.int .i64 b0, .int .i64 b1]); binOp .eql 65 (.agg #[.int .i64 a0, .int .i64 a1]) (.agg #[.int .i64 b0, .int .i64 b1]) : Sem Value).run Tryz.prog w = .ok (.bool (((decide (a0 = b0) && decide (a1 = b1))))) w := by
  intro w
  simp only [Sem.run_bind, run_eqGuard_agg _ _ _ _ _ _ _ Tryz.eqGuardType65, Result.andThen_ok, run_eql_struct, run_neq_struct, eqc_65]
theorem neq_65 {x y : Operand} {a0 b0 : Int} {a1 b1 : Int} : ∀ w, (do eqGuard .neq 65 x y (.agg #[.int .i64 a0, .int .i64 a1]) (.agg #[.int .i64 b0, .int .i64 b1]); binOp .neq 65 (.agg #[.int .i64 a0, .int .i64 a1]) (.agg #[.int .i64 b0, .int .i64 b1]) : Sem Value).run Tryz.prog w = .ok (.bool (!((decide (a0 = b0) && decide (a1 = b1))))) w := by
  intro w
  simp only [Sem.run_bind, run_eqGuard_agg _ _ _ _ _ _ _ Tryz.eqGuardType65, Result.andThen_ok, run_eql_struct, run_neq_struct, eqc_65]
theorem eqc_69 {a0 b0 : Int} {a1 b1 : Int} {a2 b2 : Bool} : ∀ w, (Op.equalIn 10000 69 (.agg #[.int .u64 a0, .int .i64 a1, .bool a2]) (.agg #[.int .u64 b0, .int .i64 b1, .bool b2])).run Tryz.prog w = .ok ((decide (a0 = b0) && (decide (a1 = b1) && decide (a2 = b2)))) w := by
  intro w
  by_cases h0 : a0 = b0
  case neg => simp [run_equalIn_agg, run_equalIn_int, run_equalIn_bool', Program.fieldsOf, Op.eqFields, part, Result.andThen, Tryz.isAgg23, Tryz.isAgg3, Tryz.isAgg4, Tryz.isAgg69, Tryz.runUnderlying23, Tryz.runUnderlying3, Tryz.runUnderlying4, Tryz.runUnderlying69, Tryz.sizeOf23, Tryz.sizeOf3, Tryz.sizeOf4, Tryz.sizeOf69, Tryz.stoodInHeld69, Tryz.underlying23, Tryz.underlying3, Tryz.underlying4, Tryz.underlying69, h0]
  subst h0
  by_cases h1 : a1 = b1
  case neg => simp [run_equalIn_agg, run_equalIn_int, run_equalIn_bool', Program.fieldsOf, Op.eqFields, part, Result.andThen, Tryz.isAgg23, Tryz.isAgg3, Tryz.isAgg4, Tryz.isAgg69, Tryz.runUnderlying23, Tryz.runUnderlying3, Tryz.runUnderlying4, Tryz.runUnderlying69, Tryz.sizeOf23, Tryz.sizeOf3, Tryz.sizeOf4, Tryz.sizeOf69, Tryz.stoodInHeld69, Tryz.underlying23, Tryz.underlying3, Tryz.underlying4, Tryz.underlying69, h1]
  subst h1
  by_cases h2 : a2 = b2
  case neg => simp [run_equalIn_agg, run_equalIn_int, run_equalIn_bool', Program.fieldsOf, Op.eqFields, part, Result.andThen, Tryz.isAgg23, Tryz.isAgg3, Tryz.isAgg4, Tryz.isAgg69, Tryz.runUnderlying23, Tryz.runUnderlying3, Tryz.runUnderlying4, Tryz.runUnderlying69, Tryz.sizeOf23, Tryz.sizeOf3, Tryz.sizeOf4, Tryz.sizeOf69, Tryz.stoodInHeld69, Tryz.underlying23, Tryz.underlying3, Tryz.underlying4, Tryz.underlying69, h2]
  subst h2
  simp [run_equalIn_agg, run_equalIn_int, run_equalIn_bool', Program.fieldsOf, Op.eqFields, part, Result.andThen, Tryz.isAgg23, Tryz.isAgg3, Tryz.isAgg4, Tryz.isAgg69, Tryz.runUnderlying23, Tryz.runUnderlying3, Tryz.runUnderlying4, Tryz.runUnderlying69, Tryz.sizeOf23, Tryz.sizeOf3, Tryz.sizeOf4, Tryz.sizeOf69, Tryz.stoodInHeld69, Tryz.underlying23, Tryz.underlying3, Tryz.underlying4, Tryz.underlying69]
theorem eql_69 {x y : Operand} {a0 b0 : Int} {a1 b1 : Int} {a2 b2 : Bool} : ∀ w, (do eqGuard .eql 69 x y (.agg #[.int .u64 a0, .int .i64 a1, .bool a2]) (.agg #[.int .u64 b0, .int .i64 b1, .bool b2]); binOp .eql 69 (.agg #[.int .u64 a0, .int .i64 a1, .bool a2]) (.agg #[.int .u64 b0, .int .i64 b1, .bool b2]) : Sem Value).run Tryz.prog w = .ok (.bool (((decide (a0 = b0) && (decide (a1 = b1) && decide (a2 = b2)))))) w := by
  intro w
  simp only [Sem.run_bind, run_eqGuard_agg _ _ _ _ _ _ _ Tryz.eqGuardType69, Result.andThen_ok, run_eql_struct, run_neq_struct, eqc_69]
theorem neq_69 {x y : Operand} {a0 b0 : Int} {a1 b1 : Int} {a2 b2 : Bool} : ∀ w, (do eqGuard .neq 69 x y (.agg #[.int .u64 a0, .int .i64 a1, .bool a2]) (.agg #[.int .u64 b0, .int .i64 b1, .bool b2]); binOp .neq 69 (.agg #[.int .u64 a0, .int .i64 a1, .bool a2]) (.agg #[.int .u64 b0, .int .i64 b1, .bool b2]) : Sem Value).run Tryz.prog w = .ok (.bool (!((decide (a0 = b0) && (decide (a1 = b1) && decide (a2 = b2)))))) w := by
  intro w
  simp only [Sem.run_bind, run_eqGuard_agg _ _ _ _ _ _ _ Tryz.eqGuardType69, Result.andThen_ok, run_eql_struct, run_neq_struct, eqc_69]
end Go.Proofs.YtbfplncdmbjjhaaGreat
