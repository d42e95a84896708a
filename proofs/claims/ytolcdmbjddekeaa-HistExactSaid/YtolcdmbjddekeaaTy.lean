/-
  Closed facts of the types: where fields lie, how structs are built and compared.
-/
import Derived.Test.YtolcdmbjddekeaaProg
import Derived.Test.YtolcdmbjddekeaaCal
import Derived.Laws.StructEq
import Derived.KernelRfl
set_option linter.unusedSimpArgs false
set_option linter.unusedVariables false
namespace Go.Proofs.Ytolcdmbjddekeaa
open Go Go.SL
theorem fa_27_0 : ∀ b off w, (Instr.fieldAt 27 (.pointer (some ⟨b, off, none⟩)) 0).run Try.prog w = .ok (.pointer (some ⟨b, off + 0, none⟩)) w := by
  intro b off w
  simp [Instr.fieldAt, Instr.sureAddr, fieldPlace, Addr_add, Try.runUnderlying27, Try.sizeOf3, Result.andThen]
theorem fa_27_1 : ∀ b off w, (Instr.fieldAt 27 (.pointer (some ⟨b, off, none⟩)) 1).run Try.prog w = .ok (.pointer (some ⟨b, off + 1, none⟩)) w := by
  intro b off w
  simp [Instr.fieldAt, Instr.sureAddr, fieldPlace, Addr_add, Try.runUnderlying27, Try.sizeOf25, Result.andThen]
theorem fa_32_1 : ∀ b off w, (Instr.fieldAt 32 (.pointer (some ⟨b, off, none⟩)) 1).run Try.prog w = .ok (.pointer (some ⟨b, off + 1, none⟩)) w := by
  intro b off w
  simp [Instr.fieldAt, Instr.sureAddr, fieldPlace, Addr_add, Try.runUnderlying32, Try.sizeOf3, Result.andThen]
theorem fa_32_2 : ∀ b off w, (Instr.fieldAt 32 (.pointer (some ⟨b, off, none⟩)) 2).run Try.prog w = .ok (.pointer (some ⟨b, off + 2, none⟩)) w := by
  intro b off w
  simp [Instr.fieldAt, Instr.sureAddr, fieldPlace, Addr_add, Try.runUnderlying32, Try.sizeOf4, Result.andThen]
theorem fa_32_3 : ∀ b off w, (Instr.fieldAt 32 (.pointer (some ⟨b, off, none⟩)) 3).run Try.prog w = .ok (.pointer (some ⟨b, off + 3, none⟩)) w := by
  intro b off w
  simp [Instr.fieldAt, Instr.sureAddr, fieldPlace, Addr_add, Try.runUnderlying32, Try.sizeOf27, Result.andThen]
theorem fa_32_4 : ∀ b off w, (Instr.fieldAt 32 (.pointer (some ⟨b, off, none⟩)) 4).run Try.prog w = .ok (.pointer (some ⟨b, off + 7, none⟩)) w := by
  intro b off w
  simp [Instr.fieldAt, Instr.sureAddr, fieldPlace, Addr_add, Try.runUnderlying32, Try.sizeOf3, Result.andThen]
theorem fa_32_5 : ∀ b off w, (Instr.fieldAt 32 (.pointer (some ⟨b, off, none⟩)) 5).run Try.prog w = .ok (.pointer (some ⟨b, off + 8, none⟩)) w := by
  intro b off w
  simp [Instr.fieldAt, Instr.sureAddr, fieldPlace, Addr_add, Try.runUnderlying32, Try.sizeOf4, Result.andThen]
theorem fa_32_6 : ∀ b off w, (Instr.fieldAt 32 (.pointer (some ⟨b, off, none⟩)) 6).run Try.prog w = .ok (.pointer (some ⟨b, off + 9, none⟩)) w := by
  intro b off w
  simp [Instr.fieldAt, Instr.sureAddr, fieldPlace, Addr_add, Try.runUnderlying32, Try.sizeOf4, Result.andThen]
theorem fa_32_7 : ∀ b off w, (Instr.fieldAt 32 (.pointer (some ⟨b, off, none⟩)) 7).run Try.prog w = .ok (.pointer (some ⟨b, off + 10, none⟩)) w := by
  intro b off w
  simp [Instr.fieldAt, Instr.sureAddr, fieldPlace, Addr_add, Try.runUnderlying32, Try.sizeOf30, Result.andThen]
theorem fa_34_0 : ∀ b off w, (Instr.fieldAt 34 (.pointer (some ⟨b, off, none⟩)) 0).run Try.prog w = .ok (.pointer (some ⟨b, off + 0, none⟩)) w := by
  intro b off w
  simp [Instr.fieldAt, Instr.sureAddr, fieldPlace, Addr_add, Try.runUnderlying34, Try.sizeOf3, Result.andThen]
theorem fa_34_1 : ∀ b off w, (Instr.fieldAt 34 (.pointer (some ⟨b, off, none⟩)) 1).run Try.prog w = .ok (.pointer (some ⟨b, off + 1, none⟩)) w := by
  intro b off w
  simp [Instr.fieldAt, Instr.sureAddr, fieldPlace, Addr_add, Try.runUnderlying34, Try.sizeOf4, Result.andThen]
theorem fa_34_2 : ∀ b off w, (Instr.fieldAt 34 (.pointer (some ⟨b, off, none⟩)) 2).run Try.prog w = .ok (.pointer (some ⟨b, off + 2, none⟩)) w := by
  intro b off w
  simp [Instr.fieldAt, Instr.sureAddr, fieldPlace, Addr_add, Try.runUnderlying34, Try.sizeOf27, Result.andThen]
theorem fa_34_3 : ∀ b off w, (Instr.fieldAt 34 (.pointer (some ⟨b, off, none⟩)) 3).run Try.prog w = .ok (.pointer (some ⟨b, off + 6, none⟩)) w := by
  intro b off w
  simp [Instr.fieldAt, Instr.sureAddr, fieldPlace, Addr_add, Try.runUnderlying34, Try.sizeOf3, Result.andThen]
theorem fa_34_4 : ∀ b off w, (Instr.fieldAt 34 (.pointer (some ⟨b, off, none⟩)) 4).run Try.prog w = .ok (.pointer (some ⟨b, off + 7, none⟩)) w := by
  intro b off w
  simp [Instr.fieldAt, Instr.sureAddr, fieldPlace, Addr_add, Try.runUnderlying34, Try.sizeOf4, Result.andThen]
theorem fa_34_5 : ∀ b off w, (Instr.fieldAt 34 (.pointer (some ⟨b, off, none⟩)) 5).run Try.prog w = .ok (.pointer (some ⟨b, off + 8, none⟩)) w := by
  intro b off w
  simp [Instr.fieldAt, Instr.sureAddr, fieldPlace, Addr_add, Try.runUnderlying34, Try.sizeOf4, Result.andThen]
theorem fa_34_6 : ∀ b off w, (Instr.fieldAt 34 (.pointer (some ⟨b, off, none⟩)) 6).run Try.prog w = .ok (.pointer (some ⟨b, off + 9, none⟩)) w := by
  intro b off w
  simp [Instr.fieldAt, Instr.sureAddr, fieldPlace, Addr_add, Try.runUnderlying34, Try.sizeOf30, Result.andThen]
theorem fa_42_0 : ∀ b off w, (Instr.fieldAt 42 (.pointer (some ⟨b, off, none⟩)) 0).run Try.prog w = .ok (.pointer (some ⟨b, off + 0, none⟩)) w := by
  intro b off w
  simp [Instr.fieldAt, Instr.sureAddr, fieldPlace, Addr_add, Try.runUnderlying42, Try.sizeOf3, Result.andThen]
theorem fa_42_1 : ∀ b off w, (Instr.fieldAt 42 (.pointer (some ⟨b, off, none⟩)) 1).run Try.prog w = .ok (.pointer (some ⟨b, off + 1, none⟩)) w := by
  intro b off w
  simp [Instr.fieldAt, Instr.sureAddr, fieldPlace, Addr_add, Try.runUnderlying42, Try.sizeOf3, Result.andThen]
theorem fa_42_2 : ∀ b off w, (Instr.fieldAt 42 (.pointer (some ⟨b, off, none⟩)) 2).run Try.prog w = .ok (.pointer (some ⟨b, off + 2, none⟩)) w := by
  intro b off w
  simp [Instr.fieldAt, Instr.sureAddr, fieldPlace, Addr_add, Try.runUnderlying42, Try.sizeOf27, Result.andThen]
theorem fa_42_3 : ∀ b off w, (Instr.fieldAt 42 (.pointer (some ⟨b, off, none⟩)) 3).run Try.prog w = .ok (.pointer (some ⟨b, off + 6, none⟩)) w := by
  intro b off w
  simp [Instr.fieldAt, Instr.sureAddr, fieldPlace, Addr_add, Try.runUnderlying42, Try.sizeOf3, Result.andThen]
theorem fa_42_4 : ∀ b off w, (Instr.fieldAt 42 (.pointer (some ⟨b, off, none⟩)) 4).run Try.prog w = .ok (.pointer (some ⟨b, off + 7, none⟩)) w := by
  intro b off w
  simp [Instr.fieldAt, Instr.sureAddr, fieldPlace, Addr_add, Try.runUnderlying42, Try.sizeOf3, Result.andThen]
theorem fa_42_5 : ∀ b off w, (Instr.fieldAt 42 (.pointer (some ⟨b, off, none⟩)) 5).run Try.prog w = .ok (.pointer (some ⟨b, off + 8, none⟩)) w := by
  intro b off w
  simp [Instr.fieldAt, Instr.sureAddr, fieldPlace, Addr_add, Try.runUnderlying42, Try.sizeOf30, Result.andThen]
theorem fa_44_0 : ∀ b off w, (Instr.fieldAt 44 (.pointer (some ⟨b, off, none⟩)) 0).run Try.prog w = .ok (.pointer (some ⟨b, off + 0, none⟩)) w := by
  intro b off w
  simp [Instr.fieldAt, Instr.sureAddr, fieldPlace, Addr_add, Try.runUnderlying44, Try.sizeOf3, Result.andThen]
theorem fa_44_1 : ∀ b off w, (Instr.fieldAt 44 (.pointer (some ⟨b, off, none⟩)) 1).run Try.prog w = .ok (.pointer (some ⟨b, off + 1, none⟩)) w := by
  intro b off w
  simp [Instr.fieldAt, Instr.sureAddr, fieldPlace, Addr_add, Try.runUnderlying44, Try.sizeOf3, Result.andThen]
theorem fa_44_2 : ∀ b off w, (Instr.fieldAt 44 (.pointer (some ⟨b, off, none⟩)) 2).run Try.prog w = .ok (.pointer (some ⟨b, off + 2, none⟩)) w := by
  intro b off w
  simp [Instr.fieldAt, Instr.sureAddr, fieldPlace, Addr_add, Try.runUnderlying44, Try.sizeOf27, Result.andThen]
theorem fa_44_3 : ∀ b off w, (Instr.fieldAt 44 (.pointer (some ⟨b, off, none⟩)) 3).run Try.prog w = .ok (.pointer (some ⟨b, off + 6, none⟩)) w := by
  intro b off w
  simp [Instr.fieldAt, Instr.sureAddr, fieldPlace, Addr_add, Try.runUnderlying44, Try.sizeOf3, Result.andThen]
theorem fa_44_4 : ∀ b off w, (Instr.fieldAt 44 (.pointer (some ⟨b, off, none⟩)) 4).run Try.prog w = .ok (.pointer (some ⟨b, off + 7, none⟩)) w := by
  intro b off w
  simp [Instr.fieldAt, Instr.sureAddr, fieldPlace, Addr_add, Try.runUnderlying44, Try.sizeOf3, Result.andThen]
theorem fa_44_5 : ∀ b off w, (Instr.fieldAt 44 (.pointer (some ⟨b, off, none⟩)) 5).run Try.prog w = .ok (.pointer (some ⟨b, off + 8, none⟩)) w := by
  intro b off w
  simp [Instr.fieldAt, Instr.sureAddr, fieldPlace, Addr_add, Try.runUnderlying44, Try.sizeOf30, Result.andThen]
theorem fa_61_0 : ∀ b off w, (Instr.fieldAt 61 (.pointer (some ⟨b, off, none⟩)) 0).run Try.prog w = .ok (.pointer (some ⟨b, off + 0, none⟩)) w := by
  intro b off w
  simp [Instr.fieldAt, Instr.sureAddr, fieldPlace, Addr_add, Try.runUnderlying61, Try.sizeOf35, Result.andThen]
theorem fa_61_1 : ∀ b off w, (Instr.fieldAt 61 (.pointer (some ⟨b, off, none⟩)) 1).run Try.prog w = .ok (.pointer (some ⟨b, off + 1, none⟩)) w := by
  intro b off w
  simp [Instr.fieldAt, Instr.sureAddr, fieldPlace, Addr_add, Try.runUnderlying61, Try.sizeOf59, Result.andThen]
theorem bld_27 {ps : List (Nat × Value)} {cs : List Value} (h : fillL (fun i => ([(0, 1), (1, 1), (2, 1), (3, 1)] : List (Nat × Nat))[i]?) ((Try.t27.zero.getD undef).cells).toList ps = some cs) : ∀ w, (Instr.build 27 ps.toArray).run Try.prog w = .ok (.agg cs.toArray) w := by
  intro w
  have h := fill_list _ _ _ _ h
  have hz : (zeroValue 27).run Try.prog w = .ok (Try.t27.zero.getD undef) w := by first | exact Try.zeroValue27 w | (rw [Try.zeroValue27]; rfl)
  simp [Instr.build, hz, Try.runUnderlying27, Try.sizeOf25, Try.sizeOf3, Result.andThen, h]
theorem bld_30 {ps : List (Nat × Value)} {cs : List Value} (h : fillL (fun i => ([(0, 1), (1, 1), (2, 1)] : List (Nat × Nat))[i]?) ((Try.t30.zero.getD undef).cells).toList ps = some cs) : ∀ w, (Instr.build 30 ps.toArray).run Try.prog w = .ok (.agg cs.toArray) w := by
  intro w
  have h := fill_list _ _ _ _ h
  have hz : (zeroValue 30).run Try.prog w = .ok (Try.t30.zero.getD undef) w := by first | exact Try.zeroValue30 w | (rw [Try.zeroValue30]; rfl)
  simp [Instr.build, hz, Try.runUnderlying30, Try.sizeOf25, Try.sizeOf28, Try.sizeOf4, Result.andThen, h]
theorem bld_32 {ps : List (Nat × Value)} {cs : List Value} (h : fillL (fun i => ([(0, 1), (1, 1), (2, 1), (3, 4), (7, 1), (8, 1), (9, 1), (10, 3)] : List (Nat × Nat))[i]?) ((Try.t32.zero.getD undef).cells).toList ps = some cs) : ∀ w, (Instr.build 32 ps.toArray).run Try.prog w = .ok (.agg cs.toArray) w := by
  intro w
  have h := fill_list _ _ _ _ h
  have hz : (zeroValue 32).run Try.prog w = .ok (Try.t32.zero.getD undef) w := by first | exact Try.zeroValue32 w | (rw [Try.zeroValue32]; rfl)
  simp [Instr.build, hz, Try.runUnderlying32, Try.sizeOf27, Try.sizeOf3, Try.sizeOf30, Try.sizeOf4, Result.andThen, h]
theorem bld_34 {ps : List (Nat × Value)} {cs : List Value} (h : fillL (fun i => ([(0, 1), (1, 1), (2, 4), (6, 1), (7, 1), (8, 1), (9, 3)] : List (Nat × Nat))[i]?) ((Try.t34.zero.getD undef).cells).toList ps = some cs) : ∀ w, (Instr.build 34 ps.toArray).run Try.prog w = .ok (.agg cs.toArray) w := by
  intro w
  have h := fill_list _ _ _ _ h
  have hz : (zeroValue 34).run Try.prog w = .ok (Try.t34.zero.getD undef) w := by first | exact Try.zeroValue34 w | (rw [Try.zeroValue34]; rfl)
  simp [Instr.build, hz, Try.runUnderlying34, Try.sizeOf27, Try.sizeOf3, Try.sizeOf30, Try.sizeOf4, Result.andThen, h]
theorem bld_42 {ps : List (Nat × Value)} {cs : List Value} (h : fillL (fun i => ([(0, 1), (1, 1), (2, 4), (6, 1), (7, 1), (8, 3)] : List (Nat × Nat))[i]?) ((Try.t42.zero.getD undef).cells).toList ps = some cs) : ∀ w, (Instr.build 42 ps.toArray).run Try.prog w = .ok (.agg cs.toArray) w := by
  intro w
  have h := fill_list _ _ _ _ h
  have hz : (zeroValue 42).run Try.prog w = .ok (Try.t42.zero.getD undef) w := by first | exact Try.zeroValue42 w | (rw [Try.zeroValue42]; rfl)
  simp [Instr.build, hz, Try.runUnderlying42, Try.sizeOf27, Try.sizeOf3, Try.sizeOf30, Result.andThen, h]
theorem bld_44 {ps : List (Nat × Value)} {cs : List Value} (h : fillL (fun i => ([(0, 1), (1, 1), (2, 4), (6, 1), (7, 1), (8, 3)] : List (Nat × Nat))[i]?) ((Try.t44.zero.getD undef).cells).toList ps = some cs) : ∀ w, (Instr.build 44 ps.toArray).run Try.prog w = .ok (.agg cs.toArray) w := by
  intro w
  have h := fill_list _ _ _ _ h
  have hz : (zeroValue 44).run Try.prog w = .ok (Try.t44.zero.getD undef) w := by first | exact Try.zeroValue44 w | (rw [Try.zeroValue44]; rfl)
  simp [Instr.build, hz, Try.runUnderlying44, Try.sizeOf27, Try.sizeOf3, Try.sizeOf30, Result.andThen, h]
theorem bld_61 {ps : List (Nat × Value)} {cs : List Value} (h : fillL (fun i => ([(0, 1), (1, 1)] : List (Nat × Nat))[i]?) ((Try.t61.zero.getD undef).cells).toList ps = some cs) : ∀ w, (Instr.build 61 ps.toArray).run Try.prog w = .ok (.agg cs.toArray) w := by
  intro w
  have h := fill_list _ _ _ _ h
  have hz : (zeroValue 61).run Try.prog w = .ok (Try.t61.zero.getD undef) w := by first | exact Try.zeroValue61 w | (rw [Try.zeroValue61]; rfl)
  simp [Instr.build, hz, Try.runUnderlying61, Try.sizeOf35, Try.sizeOf59, Result.andThen, h]
theorem eqc_27 {a0 b0 : Int} {a1 b1 : Int} {a2 b2 : Int} {a3 b3 : Int} : ∀ w, (Op.equalIn 10000 27 (.agg #[.int .i64 a0, .int .u64 a1, .int .u64 a2, .int .i64 a3]) (.agg #[.int .i64 b0, .int .u64 b1, .int .u64 b2, .int .i64 b3])).run Try.prog w = .ok ((decide (a0 = b0) && (decide (a1 = b1) && (decide (a2 = b2) && decide (a3 = b3))))) w := by
  intro w
  by_cases h0 : a0 = b0
  case neg => simp [run_equalIn_agg, run_equalIn_int, run_equalIn_bool', Program.fieldsOf, Op.eqFields, part, Result.andThen, Try.isAgg25, Try.isAgg27, Try.isAgg3, Try.runUnderlying25, Try.runUnderlying27, Try.runUnderlying3, Try.sizeOf25, Try.sizeOf27, Try.sizeOf3, Try.stoodInHeld27, Try.underlying25, Try.underlying27, Try.underlying3, h0]
  subst h0
  by_cases h1 : a1 = b1
  case neg => simp [run_equalIn_agg, run_equalIn_int, run_equalIn_bool', Program.fieldsOf, Op.eqFields, part, Result.andThen, Try.isAgg25, Try.isAgg27, Try.isAgg3, Try.runUnderlying25, Try.runUnderlying27, Try.runUnderlying3, Try.sizeOf25, Try.sizeOf27, Try.sizeOf3, Try.stoodInHeld27, Try.underlying25, Try.underlying27, Try.underlying3, h1]
  subst h1
  by_cases h2 : a2 = b2
  case neg => simp [run_equalIn_agg, run_equalIn_int, run_equalIn_bool', Program.fieldsOf, Op.eqFields, part, Result.andThen, Try.isAgg25, Try.isAgg27, Try.isAgg3, Try.runUnderlying25, Try.runUnderlying27, Try.runUnderlying3, Try.sizeOf25, Try.sizeOf27, Try.sizeOf3, Try.stoodInHeld27, Try.underlying25, Try.underlying27, Try.underlying3, h2]
  subst h2
  by_cases h3 : a3 = b3
  case neg => simp [run_equalIn_agg, run_equalIn_int, run_equalIn_bool', Program.fieldsOf, Op.eqFields, part, Result.andThen, Try.isAgg25, Try.isAgg27, Try.isAgg3, Try.runUnderlying25, Try.runUnderlying27, Try.runUnderlying3, Try.sizeOf25, Try.sizeOf27, Try.sizeOf3, Try.stoodInHeld27, Try.underlying25, Try.underlying27, Try.underlying3, h3]
  subst h3
  simp [run_equalIn_agg, run_equalIn_int, run_equalIn_bool', Program.fieldsOf, Op.eqFields, part, Result.andThen, Try.isAgg25, Try.isAgg27, Try.isAgg3, Try.runUnderlying25, Try.runUnderlying27, Try.runUnderlying3, Try.sizeOf25, Try.sizeOf27, Try.sizeOf3, Try.stoodInHeld27, Try.underlying25, Try.underlying27, Try.underlying3]
theorem eql_27 {x y : Operand} {a0 b0 : Int} {a1 b1 : Int} {a2 b2 : Int} {a3 b3 : Int} : ∀ w, (do eqGuard .eql 27 x y (.agg #[.int .i64 a0, .int .u64 a1, .int .u64 a2, .int .i64 a3]) (.agg #[.int .i64 b0, .int .u64 b1, .int .u64 b2, .int .i64 b3]); binOp .eql 27 (.agg #[.int .i64 a0, .int .u64 a1, .int .u64 a2, .int .i64 a3]) (.agg #[.int .i64 b0, .int .u64 b1, .int .u64 b2, .int .i64 b3]) : Sem Value).run Try.prog w = .ok (.bool (((decide (a0 = b0) && (decide (a1 = b1) && (decide (a2 = b2) && decide (a3 = b3))))))) w := by
  intro w
  simp only [Sem.run_bind, run_eqGuard_agg _ _ _ _ _ _ _ Try.eqGuardType27, Result.andThen_ok, run_eql_struct, run_neq_struct, eqc_27]
theorem neq_27 {x y : Operand} {a0 b0 : Int} {a1 b1 : Int} {a2 b2 : Int} {a3 b3 : Int} : ∀ w, (do eqGuard .neq 27 x y (.agg #[.int .i64 a0, .int .u64 a1, .int .u64 a2, .int .i64 a3]) (.agg #[.int .i64 b0, .int .u64 b1, .int .u64 b2, .int .i64 b3]); binOp .neq 27 (.agg #[.int .i64 a0, .int .u64 a1, .int .u64 a2, .int .i64 a3]) (.agg #[.int .i64 b0, .int .u64 b1, .int .u64 b2, .int .i64 b3]) : Sem Value).run Try.prog w = .ok (.bool (!((decide (a0 = b0) && (decide (a1 = b1) && (decide (a2 = b2) && decide (a3 = b3))))))) w := by
  intro w
  simp only [Sem.run_bind, run_eqGuard_agg _ _ _ _ _ _ _ Try.eqGuardType27, Result.andThen_ok, run_eql_struct, run_neq_struct, eqc_27]
theorem eqc_30 {a0 b0 : Int} {a1 b1 : Bool} {a2 b2 : Int} : ∀ w, (Op.equalIn 10000 30 (.agg #[.int .i64 a0, .bool a1, .int .u64 a2]) (.agg #[.int .i64 b0, .bool b1, .int .u64 b2])).run Try.prog w = .ok ((decide (a0 = b0) && (decide (a1 = b1) && decide (a2 = b2)))) w := by
  intro w
  by_cases h0 : a0 = b0
  case neg => simp [run_equalIn_agg, run_equalIn_int, run_equalIn_bool', Program.fieldsOf, Op.eqFields, part, Result.andThen, Try.isAgg25, Try.isAgg28, Try.isAgg30, Try.isAgg4, Try.runUnderlying25, Try.runUnderlying28, Try.runUnderlying30, Try.runUnderlying4, Try.sizeOf25, Try.sizeOf28, Try.sizeOf30, Try.sizeOf4, Try.stoodInHeld30, Try.underlying25, Try.underlying28, Try.underlying30, Try.underlying4, h0]
  subst h0
  by_cases h1 : a1 = b1
  case neg => simp [run_equalIn_agg, run_equalIn_int, run_equalIn_bool', Program.fieldsOf, Op.eqFields, part, Result.andThen, Try.isAgg25, Try.isAgg28, Try.isAgg30, Try.isAgg4, Try.runUnderlying25, Try.runUnderlying28, Try.runUnderlying30, Try.runUnderlying4, Try.sizeOf25, Try.sizeOf28, Try.sizeOf30, Try.sizeOf4, Try.stoodInHeld30, Try.underlying25, Try.underlying28, Try.underlying30, Try.underlying4, h1]
  subst h1
  by_cases h2 : a2 = b2
  case neg => simp [run_equalIn_agg, run_equalIn_int, run_equalIn_bool', Program.fieldsOf, Op.eqFields, part, Result.andThen, Try.isAgg25, Try.isAgg28, Try.isAgg30, Try.isAgg4, Try.runUnderlying25, Try.runUnderlying28, Try.runUnderlying30, Try.runUnderlying4, Try.sizeOf25, Try.sizeOf28, Try.sizeOf30, Try.sizeOf4, Try.stoodInHeld30, Try.underlying25, Try.underlying28, Try.underlying30, Try.underlying4, h2]
  subst h2
  simp [run_equalIn_agg, run_equalIn_int, run_equalIn_bool', Program.fieldsOf, Op.eqFields, part, Result.andThen, Try.isAgg25, Try.isAgg28, Try.isAgg30, Try.isAgg4, Try.runUnderlying25, Try.runUnderlying28, Try.runUnderlying30, Try.runUnderlying4, Try.sizeOf25, Try.sizeOf28, Try.sizeOf30, Try.sizeOf4, Try.stoodInHeld30, Try.underlying25, Try.underlying28, Try.underlying30, Try.underlying4]
theorem eql_30 {x y : Operand} {a0 b0 : Int} {a1 b1 : Bool} {a2 b2 : Int} : ∀ w, (do eqGuard .eql 30 x y (.agg #[.int .i64 a0, .bool a1, .int .u64 a2]) (.agg #[.int .i64 b0, .bool b1, .int .u64 b2]); binOp .eql 30 (.agg #[.int .i64 a0, .bool a1, .int .u64 a2]) (.agg #[.int .i64 b0, .bool b1, .int .u64 b2]) : Sem Value).run Try.prog w = .ok (.bool (((decide (a0 = b0) && (decide (a1 = b1) && decide (a2 = b2)))))) w := by
  intro w
  simp only [Sem.run_bind, run_eqGuard_agg _ _ _ _ _ _ _ Try.eqGuardType30, Result.andThen_ok, run_eql_struct, run_neq_struct, eqc_30]
theorem neq_30 {x y : Operand} {a0 b0 : Int} {a1 b1 : Bool} {a2 b2 : Int} : ∀ w, (do eqGuard .neq 30 x y (.agg #[.int .i64 a0, .bool a1, .int .u64 a2]) (.agg #[.int .i64 b0, .bool b1, .int .u64 b2]); binOp .neq 30 (.agg #[.int .i64 a0, .bool a1, .int .u64 a2]) (.agg #[.int .i64 b0, .bool b1, .int .u64 b2]) : Sem Value).run Try.prog w = .ok (.bool (!((decide (a0 = b0) && (decide (a1 = b1) && decide (a2 = b2)))))) w := by
  intro w
  simp only [Sem.run_bind, run_eqGuard_agg _ _ _ _ _ _ _ Try.eqGuardType30, Result.andThen_ok, run_eql_struct, run_neq_struct, eqc_30]
theorem eqc_42 {a0 b0 : Int} {a1 b1 : Int} {a2 b2 : Int} {a3 b3 : Int} {a4 b4 : Int} {a5 b5 : Int} {a6 b6 : Int} {a7 b7 : Int} {a8 b8 : Int} {a9 b9 : Bool} {a10 b10 : Int} : ∀ w, (Op.equalIn 10000 42 (.agg #[.int .i64 a0, .int .i64 a1, .int .i64 a2, .int .u64 a3, .int .u64 a4, .int .i64 a5, .int .i64 a6, .int .i64 a7, .int .i64 a8, .bool a9, .int .u64 a10]) (.agg #[.int .i64 b0, .int .i64 b1, .int .i64 b2, .int .u64 b3, .int .u64 b4, .int .i64 b5, .int .i64 b6, .int .i64 b7, .int .i64 b8, .bool b9, .int .u64 b10])).run Try.prog w = .ok ((decide (a0 = b0) && (decide (a1 = b1) && (decide (a2 = b2) && (decide (a3 = b3) && (decide (a4 = b4) && (decide (a5 = b5) && (decide (a6 = b6) && (decide (a7 = b7) && (decide (a8 = b8) && (decide (a9 = b9) && decide (a10 = b10)))))))))))) w := by
  intro w
  by_cases h0 : a0 = b0
  case neg => simp [run_equalIn_agg, run_equalIn_int, run_equalIn_bool', Program.fieldsOf, Op.eqFields, part, Result.andThen, Try.isAgg25, Try.isAgg27, Try.isAgg28, Try.isAgg3, Try.isAgg30, Try.isAgg4, Try.isAgg42, Try.runUnderlying25, Try.runUnderlying27, Try.runUnderlying28, Try.runUnderlying3, Try.runUnderlying30, Try.runUnderlying4, Try.runUnderlying42, Try.sizeOf25, Try.sizeOf27, Try.sizeOf28, Try.sizeOf3, Try.sizeOf30, Try.sizeOf4, Try.sizeOf42, Try.stoodInHeld27, Try.stoodInHeld30, Try.stoodInHeld42, Try.underlying25, Try.underlying27, Try.underlying28, Try.underlying3, Try.underlying30, Try.underlying4, Try.underlying42, h0]
  subst h0
  by_cases h1 : a1 = b1
  case neg => simp [run_equalIn_agg, run_equalIn_int, run_equalIn_bool', Program.fieldsOf, Op.eqFields, part, Result.andThen, Try.isAgg25, Try.isAgg27, Try.isAgg28, Try.isAgg3, Try.isAgg30, Try.isAgg4, Try.isAgg42, Try.runUnderlying25, Try.runUnderlying27, Try.runUnderlying28, Try.runUnderlying3, Try.runUnderlying30, Try.runUnderlying4, Try.runUnderlying42, Try.sizeOf25, Try.sizeOf27, Try.sizeOf28, Try.sizeOf3, Try.sizeOf30, Try.sizeOf4, Try.sizeOf42, Try.stoodInHeld27, Try.stoodInHeld30, Try.stoodInHeld42, Try.underlying25, Try.underlying27, Try.underlying28, Try.underlying3, Try.underlying30, Try.underlying4, Try.underlying42, h1]
  subst h1
  by_cases h2 : a2 = b2
  case neg => simp [run_equalIn_agg, run_equalIn_int, run_equalIn_bool', Program.fieldsOf, Op.eqFields, part, Result.andThen, Try.isAgg25, Try.isAgg27, Try.isAgg28, Try.isAgg3, Try.isAgg30, Try.isAgg4, Try.isAgg42, Try.runUnderlying25, Try.runUnderlying27, Try.runUnderlying28, Try.runUnderlying3, Try.runUnderlying30, Try.runUnderlying4, Try.runUnderlying42, Try.sizeOf25, Try.sizeOf27, Try.sizeOf28, Try.sizeOf3, Try.sizeOf30, Try.sizeOf4, Try.sizeOf42, Try.stoodInHeld27, Try.stoodInHeld30, Try.stoodInHeld42, Try.underlying25, Try.underlying27, Try.underlying28, Try.underlying3, Try.underlying30, Try.underlying4, Try.underlying42, h2]
  subst h2
  by_cases h3 : a3 = b3
  case neg => simp [run_equalIn_agg, run_equalIn_int, run_equalIn_bool', Program.fieldsOf, Op.eqFields, part, Result.andThen, Try.isAgg25, Try.isAgg27, Try.isAgg28, Try.isAgg3, Try.isAgg30, Try.isAgg4, Try.isAgg42, Try.runUnderlying25, Try.runUnderlying27, Try.runUnderlying28, Try.runUnderlying3, Try.runUnderlying30, Try.runUnderlying4, Try.runUnderlying42, Try.sizeOf25, Try.sizeOf27, Try.sizeOf28, Try.sizeOf3, Try.sizeOf30, Try.sizeOf4, Try.sizeOf42, Try.stoodInHeld27, Try.stoodInHeld30, Try.stoodInHeld42, Try.underlying25, Try.underlying27, Try.underlying28, Try.underlying3, Try.underlying30, Try.underlying4, Try.underlying42, h3]
  subst h3
  by_cases h4 : a4 = b4
  case neg => simp [run_equalIn_agg, run_equalIn_int, run_equalIn_bool', Program.fieldsOf, Op.eqFields, part, Result.andThen, Try.isAgg25, Try.isAgg27, Try.isAgg28, Try.isAgg3, Try.isAgg30, Try.isAgg4, Try.isAgg42, Try.runUnderlying25, Try.runUnderlying27, Try.runUnderlying28, Try.runUnderlying3, Try.runUnderlying30, Try.runUnderlying4, Try.runUnderlying42, Try.sizeOf25, Try.sizeOf27, Try.sizeOf28, Try.sizeOf3, Try.sizeOf30, Try.sizeOf4, Try.sizeOf42, Try.stoodInHeld27, Try.stoodInHeld30, Try.stoodInHeld42, Try.underlying25, Try.underlying27, Try.underlying28, Try.underlying3, Try.underlying30, Try.underlying4, Try.underlying42, h4]
  subst h4
  by_cases h5 : a5 = b5
  case neg => simp [run_equalIn_agg, run_equalIn_int, run_equalIn_bool', Program.fieldsOf, Op.eqFields, part, Result.andThen, Try.isAgg25, Try.isAgg27, Try.isAgg28, Try.isAgg3, Try.isAgg30, Try.isAgg4, Try.isAgg42, Try.runUnderlying25, Try.runUnderlying27, Try.runUnderlying28, Try.runUnderlying3, Try.runUnderlying30, Try.runUnderlying4, Try.runUnderlying42, Try.sizeOf25, Try.sizeOf27, Try.sizeOf28, Try.sizeOf3, Try.sizeOf30, Try.sizeOf4, Try.sizeOf42, Try.stoodInHeld27, Try.stoodInHeld30, Try.stoodInHeld42, Try.underlying25, Try.underlying27, Try.underlying28, Try.underlying3, Try.underlying30, Try.underlying4, Try.underlying42, h5]
  subst h5
  by_cases h6 : a6 = b6
  case neg => simp [run_equalIn_agg, run_equalIn_int, run_equalIn_bool', Program.fieldsOf, Op.eqFields, part, Result.andThen, Try.isAgg25, Try.isAgg27, Try.isAgg28, Try.isAgg3, Try.isAgg30, Try.isAgg4, Try.isAgg42, Try.runUnderlying25, Try.runUnderlying27, Try.runUnderlying28, Try.runUnderlying3, Try.runUnderlying30, Try.runUnderlying4, Try.runUnderlying42, Try.sizeOf25, Try.sizeOf27, Try.sizeOf28, Try.sizeOf3, Try.sizeOf30, Try.sizeOf4, Try.sizeOf42, Try.stoodInHeld27, Try.stoodInHeld30, Try.stoodInHeld42, Try.underlying25, Try.underlying27, Try.underlying28, Try.underlying3, Try.underlying30, Try.underlying4, Try.underlying42, h6]
  subst h6
  by_cases h7 : a7 = b7
  case neg => simp [run_equalIn_agg, run_equalIn_int, run_equalIn_bool', Program.fieldsOf, Op.eqFields, part, Result.andThen, Try.isAgg25, Try.isAgg27, Try.isAgg28, Try.isAgg3, Try.isAgg30, Try.isAgg4, Try.isAgg42, Try.runUnderlying25, Try.runUnderlying27, Try.runUnderlying28, Try.runUnderlying3, Try.runUnderlying30, Try.runUnderlying4, Try.runUnderlying42, Try.sizeOf25, Try.sizeOf27, Try.sizeOf28, Try.sizeOf3, Try.sizeOf30, Try.sizeOf4, Try.sizeOf42, Try.stoodInHeld27, Try.stoodInHeld30, Try.stoodInHeld42, Try.underlying25, Try.underlying27, Try.underlying28, Try.underlying3, Try.underlying30, Try.underlying4, Try.underlying42, h7]
  subst h7
  by_cases h8 : a8 = b8
  case neg => simp [run_equalIn_agg, run_equalIn_int, run_equalIn_bool', Program.fieldsOf, Op.eqFields, part, Result.andThen, Try.isAgg25, Try.isAgg27, Try.isAgg28, Try.isAgg3, Try.isAgg30, Try.isAgg4, Try.isAgg42, Try.runUnderlying25, Try.runUnderlying27, Try.runUnderlying28, Try.runUnderlying3, Try.runUnderlying30, Try.runUnderlying4, Try.runUnderlying42, Try.sizeOf25, Try.sizeOf27, Try.sizeOf28, Try.sizeOf3, Try.sizeOf30, Try.sizeOf4, Try.sizeOf42, Try.stoodInHeld27, Try.stoodInHeld30, Try.stoodInHeld42, Try.underlying25, Try.underlying27, Try.underlying28, Try.underlying3, Try.underlying30, Try.underlying4, Try.underlying42, h8]
  subst h8
  by_cases h9 : a9 = b9
  case neg => simp [run_equalIn_agg, run_equalIn_int, run_equalIn_bool', Program.fieldsOf, Op.eqFields, part, Result.andThen, Try.isAgg25, Try.isAgg27, Try.isAgg28, Try.isAgg3, Try.isAgg30, Try.isAgg4, Try.isAgg42, Try.runUnderlying25, Try.runUnderlying27, Try.runUnderlying28, Try.runUnderlying3, Try.runUnderlying30, Try.runUnderlying4, Try.runUnderlying42, Try.sizeOf25, Try.sizeOf27, Try.sizeOf28, Try.sizeOf3, Try.sizeOf30, Try.sizeOf4, Try.sizeOf42, Try.stoodInHeld27, Try.stoodInHeld30, Try.stoodInHeld42, Try.underlying25, Try.underlying27, Try.underlying28, Try.underlying3, Try.underlying30, Try.underlying4, Try.underlying42, h9]
  subst h9
  by_cases h10 : a10 = b10
  case neg => simp [run_equalIn_agg, run_equalIn_int, run_equalIn_bool', Program.fieldsOf, Op.eqFields, part, Result.andThen, Try.isAgg25, Try.isAgg27, Try.isAgg28, Try.isAgg3, Try.isAgg30, Try.isAgg4, Try.isAgg42, Try.runUnderlying25, Try.runUnderlying27, Try.runUnderlying28, Try.runUnderlying3, Try.runUnderlying30, Try.runUnderlying4, Try.runUnderlying42, Try.sizeOf25, Try.sizeOf27, Try.sizeOf28, Try.sizeOf3, Try.sizeOf30, Try.sizeOf4, Try.sizeOf42, Try.stoodInHeld27, Try.stoodInHeld30, Try.stoodInHeld42, Try.underlying25, Try.underlying27, Try.underlying28, Try.underlying3, Try.underlying30, Try.underlying4, Try.underlying42, h10]
  subst h10
  simp [run_equalIn_agg, run_equalIn_int, run_equalIn_bool', Program.fieldsOf, Op.eqFields, part, Result.andThen, Try.isAgg25, Try.isAgg27, Try.isAgg28, Try.isAgg3, Try.isAgg30, Try.isAgg4, Try.isAgg42, Try.runUnderlying25, Try.runUnderlying27, Try.runUnderlying28, Try.runUnderlying3, Try.runUnderlying30, Try.runUnderlying4, Try.runUnderlying42, Try.sizeOf25, Try.sizeOf27, Try.sizeOf28, Try.sizeOf3, Try.sizeOf30, Try.sizeOf4, Try.sizeOf42, Try.stoodInHeld27, Try.stoodInHeld30, Try.stoodInHeld42, Try.underlying25, Try.underlying27, Try.underlying28, Try.underlying3, Try.underlying30, Try.underlying4, Try.underlying42]
theorem eql_42 {x y : Operand} {a0 b0 : Int} {a1 b1 : Int} {a2 b2 : Int} {a3 b3 : Int} {a4 b4 : Int} {a5 b5 : Int} {a6 b6 : Int} {a7 b7 : Int} {a8 b8 : Int} {a9 b9 : Bool} {a10 b10 : Int} : ∀ w, (do eqGuard .eql 42 x y (.agg #[.int .i64 a0, .int .i64 a1, .int .i64 a2, .int .u64 a3, .int .u64 a4, .int .i64 a5, .int .i64 a6, .int .i64 a7, .int .i64 a8, .bool a9, .int .u64 a10]) (.agg #[.int .i64 b0, .int .i64 b1, .int .i64 b2, .int .u64 b3, .int .u64 b4, .int .i64 b5, .int .i64 b6, .int .i64 b7, .int .i64 b8, .bool b9, .int .u64 b10]); binOp .eql 42 (.agg #[.int .i64 a0, .int .i64 a1, .int .i64 a2, .int .u64 a3, .int .u64 a4, .int .i64 a5, .int .i64 a6, .int .i64 a7, .int .i64 a8, .bool a9, .int .u64 a10]) (.agg #[.int .i64 b0, .int .i64 b1, .int .i64 b2, .int .u64 b3, .int .u64 b4, .int .i64 b5, .int .i64 b6, .int .i64 b7, .int .i64 b8, .bool b9, .int .u64 b10]) : Sem Value).run Try.prog w = .ok (.bool (((decide (a0 = b0) && (decide (a1 = b1) && (decide (a2 = b2) && (decide (a3 = b3) && (decide (a4 = b4) && (decide (a5 = b5) && (decide (a6 = b6) && (decide (a7 = b7) && (decide (a8 = b8) && (decide (a9 = b9) && decide (a10 = b10)))))))))))))) w := by
  intro w
  simp only [Sem.run_bind, run_eqGuard_agg _ _ _ _ _ _ _ Try.eqGuardType42, Result.andThen_ok, run_eql_struct, run_neq_struct, eqc_42]
theorem neq_42 {x y : Operand} {a0 b0 : Int} {a1 b1 : Int} {a2 b2 : Int} {a3 b3 : Int} {a4 b4 : Int} {a5 b5 : Int} {a6 b6 : Int} {a7 b7 : Int} {a8 b8 : Int} {a9 b9 : Bool} {a10 b10 : Int} : ∀ w, (do eqGuard .neq 42 x y (.agg #[.int .i64 a0, .int .i64 a1, .int .i64 a2, .int .u64 a3, .int .u64 a4, .int .i64 a5, .int .i64 a6, .int .i64 a7, .int .i64 a8, .bool a9, .int .u64 a10]) (.agg #[.int .i64 b0, .int .i64 b1, .int .i64 b2, .int .u64 b3, .int .u64 b4, .int .i64 b5, .int .i64 b6, .int .i64 b7, .int .i64 b8, .bool b9, .int .u64 b10]); binOp .neq 42 (.agg #[.int .i64 a0, .int .i64 a1, .int .i64 a2, .int .u64 a3, .int .u64 a4, .int .i64 a5, .int .i64 a6, .int .i64 a7, .int .i64 a8, .bool a9, .int .u64 a10]) (.agg #[.int .i64 b0, .int .i64 b1, .int .i64 b2, .int .u64 b3, .int .u64 b4, .int .i64 b5, .int .i64 b6, .int .i64 b7, .int .i64 b8, .bool b9, .int .u64 b10]) : Sem Value).run Try.prog w = .ok (.bool (!((decide (a0 = b0) && (decide (a1 = b1) && (decide (a2 = b2) && (decide (a3 = b3) && (decide (a4 = b4) && (decide (a5 = b5) && (decide (a6 = b6) && (decide (a7 = b7) && (decide (a8 = b8) && (decide (a9 = b9) && decide (a10 = b10)))))))))))))) w := by
  intro w
  simp only [Sem.run_bind, run_eqGuard_agg _ _ _ _ _ _ _ Try.eqGuardType42, Result.andThen_ok, run_eql_struct, run_neq_struct, eqc_42]
theorem eqc_44 {a0 b0 : Int} {a1 b1 : Int} {a2 b2 : Int} {a3 b3 : Int} {a4 b4 : Int} {a5 b5 : Int} {a6 b6 : Int} {a7 b7 : Int} {a8 b8 : Int} {a9 b9 : Bool} {a10 b10 : Int} : ∀ w, (Op.equalIn 10000 44 (.agg #[.int .i64 a0, .int .i64 a1, .int .i64 a2, .int .u64 a3, .int .u64 a4, .int .i64 a5, .int .i64 a6, .int .i64 a7, .int .i64 a8, .bool a9, .int .u64 a10]) (.agg #[.int .i64 b0, .int .i64 b1, .int .i64 b2, .int .u64 b3, .int .u64 b4, .int .i64 b5, .int .i64 b6, .int .i64 b7, .int .i64 b8, .bool b9, .int .u64 b10])).run Try.prog w = .ok ((decide (a0 = b0) && (decide (a1 = b1) && (decide (a2 = b2) && (decide (a3 = b3) && (decide (a4 = b4) && (decide (a5 = b5) && (decide (a6 = b6) && (decide (a7 = b7) && (decide (a8 = b8) && (decide (a9 = b9) && decide (a10 = b10)))))))))))) w := by
  intro w
  by_cases h0 : a0 = b0
  case neg => simp [run_equalIn_agg, run_equalIn_int, run_equalIn_bool', Program.fieldsOf, Op.eqFields, part, Result.andThen, Try.isAgg25, Try.isAgg27, Try.isAgg28, Try.isAgg3, Try.isAgg30, Try.isAgg4, Try.isAgg44, Try.runUnderlying25, Try.runUnderlying27, Try.runUnderlying28, Try.runUnderlying3, Try.runUnderlying30, Try.runUnderlying4, Try.runUnderlying44, Try.sizeOf25, Try.sizeOf27, Try.sizeOf28, Try.sizeOf3, Try.sizeOf30, Try.sizeOf4, Try.sizeOf44, Try.stoodInHeld27, Try.stoodInHeld30, Try.stoodInHeld44, Try.underlying25, Try.underlying27, Try.underlying28, Try.underlying3, Try.underlying30, Try.underlying4, Try.underlying44, h0]
  subst h0
  by_cases h1 : a1 = b1
  case neg => simp [run_equalIn_agg, run_equalIn_int, run_equalIn_bool', Program.fieldsOf, Op.eqFields, part, Result.andThen, Try.isAgg25, Try.isAgg27, Try.isAgg28, Try.isAgg3, Try.isAgg30, Try.isAgg4, Try.isAgg44, Try.runUnderlying25, Try.runUnderlying27, Try.runUnderlying28, Try.runUnderlying3, Try.runUnderlying30, Try.runUnderlying4, Try.runUnderlying44, Try.sizeOf25, Try.sizeOf27, Try.sizeOf28, Try.sizeOf3, Try.sizeOf30, Try.sizeOf4, Try.sizeOf44, Try.stoodInHeld27, Try.stoodInHeld30, Try.stoodInHeld44, Try.underlying25, Try.underlying27, Try.underlying28, Try.underlying3, Try.underlying30, Try.underlying4, Try.underlying44, h1]
  subst h1
  by_cases h2 : a2 = b2
  case neg => simp [run_equalIn_agg, run_equalIn_int, run_equalIn_bool', Program.fieldsOf, Op.eqFields, part, Result.andThen, Try.isAgg25, Try.isAgg27, Try.isAgg28, Try.isAgg3, Try.isAgg30, Try.isAgg4, Try.isAgg44, Try.runUnderlying25, Try.runUnderlying27, Try.runUnderlying28, Try.runUnderlying3, Try.runUnderlying30, Try.runUnderlying4, Try.runUnderlying44, Try.sizeOf25, Try.sizeOf27, Try.sizeOf28, Try.sizeOf3, Try.sizeOf30, Try.sizeOf4, Try.sizeOf44, Try.stoodInHeld27, Try.stoodInHeld30, Try.stoodInHeld44, Try.underlying25, Try.underlying27, Try.underlying28, Try.underlying3, Try.underlying30, Try.underlying4, Try.underlying44, h2]
  subst h2
  by_cases h3 : a3 = b3
  case neg => simp [run_equalIn_agg, run_equalIn_int, run_equalIn_bool', Program.fieldsOf, Op.eqFields, part, Result.andThen, Try.isAgg25, Try.isAgg27, Try.isAgg28, Try.isAgg3, Try.isAgg30, Try.isAgg4, Try.isAgg44, Try.runUnderlying25, Try.runUnderlying27, Try.runUnderlying28, Try.runUnderlying3, Try.runUnderlying30, Try.runUnderlying4, Try.runUnderlying44, Try.sizeOf25, Try.sizeOf27, Try.sizeOf28, Try.sizeOf3, Try.sizeOf30, Try.sizeOf4, Try.sizeOf44, Try.stoodInHeld27, Try.stoodInHeld30, Try.stoodInHeld44, Try.underlying25, Try.underlying27, Try.underlying28, Try.underlying3, Try.underlying30, Try.underlying4, Try.underlying44, h3]
  subst h3
  by_cases h4 : a4 = b4
  case neg => simp [run_equalIn_agg, run_equalIn_int, run_equalIn_bool', Program.fieldsOf, Op.eqFields, part, Result.andThen, Try.isAgg25, Try.isAgg27, Try.isAgg28, Try.isAgg3, Try.isAgg30, Try.isAgg4, Try.isAgg44, Try.runUnderlying25, Try.runUnderlying27, Try.runUnderlying28, Try.runUnderlying3, Try.runUnderlying30, Try.runUnderlying4, Try.runUnderlying44, Try.sizeOf25, Try.sizeOf27, Try.sizeOf28, Try.sizeOf3, Try.sizeOf30, Try.sizeOf4, Try.sizeOf44, Try.stoodInHeld27, Try.stoodInHeld30, Try.stoodInHeld44, Try.underlying25, Try.underlying27, Try.underlying28, Try.underlying3, Try.underlying30, Try.underlying4, Try.underlying44, h4]
  subst h4
  by_cases h5 : a5 = b5
  case neg => simp [run_equalIn_agg, run_equalIn_int, run_equalIn_bool', Program.fieldsOf, Op.eqFields, part, Result.andThen, Try.isAgg25, Try.isAgg27, Try.isAgg28, Try.isAgg3, Try.isAgg30, Try.isAgg4, Try.isAgg44, Try.runUnderlying25, Try.runUnderlying27, Try.runUnderlying28, Try.runUnderlying3, Try.runUnderlying30, Try.runUnderlying4, Try.runUnderlying44, Try.sizeOf25, Try.sizeOf27, Try.sizeOf28, Try.sizeOf3, Try.sizeOf30, Try.sizeOf4, Try.sizeOf44, Try.stoodInHeld27, Try.stoodInHeld30, Try.stoodInHeld44, Try.underlying25, Try.underlying27, Try.underlying28, Try.underlying3, Try.underlying30, Try.underlying4, Try.underlying44, h5]
  subst h5
  by_cases h6 : a6 = b6
  case neg => simp [run_equalIn_agg, run_equalIn_int, run_equalIn_bool', Program.fieldsOf, Op.eqFields, part, Result.andThen, Try.isAgg25, Try.isAgg27, Try.isAgg28, Try.isAgg3, Try.isAgg30, Try.isAgg4, Try.isAgg44, Try.runUnderlying25, Try.runUnderlying27, Try.runUnderlying28, Try.runUnderlying3, Try.runUnderlying30, Try.runUnderlying4, Try.runUnderlying44, Try.sizeOf25, Try.sizeOf27, Try.sizeOf28, Try.sizeOf3, Try.sizeOf30, Try.sizeOf4, Try.sizeOf44, Try.stoodInHeld27, Try.stoodInHeld30, Try.stoodInHeld44, Try.underlying25, Try.underlying27, Try.underlying28, Try.underlying3, Try.underlying30, Try.underlying4, Try.underlying44, h6]
  subst h6
  by_cases h7 : a7 = b7
  case neg => simp [run_equalIn_agg, run_equalIn_int, run_equalIn_bool', Program.fieldsOf, Op.eqFields, part, Result.andThen, Try.isAgg25, Try.isAgg27, Try.isAgg28, Try.isAgg3, Try.isAgg30, Try.isAgg4, Try.isAgg44, Try.runUnderlying25, Try.runUnderlying27, Try.runUnderlying28, Try.runUnderlying3, Try.runUnderlying30, Try.runUnderlying4, Try.runUnderlying44, Try.sizeOf25, Try.sizeOf27, Try.sizeOf28, Try.sizeOf3, Try.sizeOf30, Try.sizeOf4, Try.sizeOf44, Try.stoodInHeld27, Try.stoodInHeld30, Try.stoodInHeld44, Try.underlying25, Try.underlying27, Try.underlying28, Try.underlying3, Try.underlying30, Try.underlying4, Try.underlying44, h7]
  subst h7
  by_cases h8 : a8 = b8
  case neg => simp [run_equalIn_agg, run_equalIn_int, run_equalIn_bool', Program.fieldsOf, Op.eqFields, part, Result.andThen, Try.isAgg25, Try.isAgg27, Try.isAgg28, Try.isAgg3, Try.isAgg30, Try.isAgg4, Try.isAgg44, Try.runUnderlying25, Try.runUnderlying27, Try.runUnderlying28, Try.runUnderlying3, Try.runUnderlying30, Try.runUnderlying4, Try.runUnderlying44, Try.sizeOf25, Try.sizeOf27, Try.sizeOf28, Try.sizeOf3, Try.sizeOf30, Try.sizeOf4, Try.sizeOf44, Try.stoodInHeld27, Try.stoodInHeld30, Try.stoodInHeld44, Try.underlying25, Try.underlying27, Try.underlying28, Try.underlying3, Try.underlying30, Try.underlying4, Try.underlying44, h8]
  subst h8
  by_cases h9 : a9 = b9
  case neg => simp [run_equalIn_agg, run_equalIn_int, run_equalIn_bool', Program.fieldsOf, Op.eqFields, part, Result.andThen, Try.isAgg25, Try.isAgg27, Try.isAgg28, Try.isAgg3, Try.isAgg30, Try.isAgg4, Try.isAgg44, Try.runUnderlying25, Try.runUnderlying27, Try.runUnderlying28, Try.runUnderlying3, Try.runUnderlying30, Try.runUnderlying4, Try.runUnderlying44, Try.sizeOf25, Try.sizeOf27, Try.sizeOf28, Try.sizeOf3, Try.sizeOf30, Try.sizeOf4, Try.sizeOf44, Try.stoodInHeld27, Try.stoodInHeld30, Try.stoodInHeld44, Try.underlying25, Try.underlying27, Try.underlying28, Try.underlying3, Try.underlying30, Try.underlying4, Try.underlying44, h9]
  subst h9
  by_cases h10 : a10 = b10
  case neg => simp [run_equalIn_agg, run_equalIn_int, run_equalIn_bool', Program.fieldsOf, Op.eqFields, part, Result.andThen, Try.isAgg25, Try.isAgg27, Try.isAgg28, Try.isAgg3, Try.isAgg30, Try.isAgg4, Try.isAgg44, Try.runUnderlying25, Try.runUnderlying27, Try.runUnderlying28, Try.runUnderlying3, Try.runUnderlying30, Try.runUnderlying4, Try.runUnderlying44, Try.sizeOf25, Try.sizeOf27, Try.sizeOf28, Try.sizeOf3, Try.sizeOf30, Try.sizeOf4, Try.sizeOf44, Try.stoodInHeld27, Try.stoodInHeld30, Try.stoodInHeld44, Try.underlying25, Try.underlying27, Try.underlying28, Try.underlying3, Try.underlying30, Try.underlying4, Try.underlying44, h10]
  subst h10
  simp [run_equalIn_agg, run_equalIn_int, run_equalIn_bool', Program.fieldsOf, Op.eqFields, part, Result.andThen, Try.isAgg25, Try.isAgg27, Try.isAgg28, Try.isAgg3, Try.isAgg30, Try.isAgg4, Try.isAgg44, Try.runUnderlying25, Try.runUnderlying27, Try.runUnderlying28, Try.runUnderlying3, Try.runUnderlying30, Try.runUnderlying4, Try.runUnderlying44, Try.sizeOf25, Try.sizeOf27, Try.sizeOf28, Try.sizeOf3, Try.sizeOf30, Try.sizeOf4, Try.sizeOf44, Try.stoodInHeld27, Try.stoodInHeld30, Try.stoodInHeld44, Try.underlying25, Try.underlying27, Try.underlying28, Try.underlying3, Try.underlying30, Try.underlying4, Try.underlying44]
theorem eql_44 {x y : Operand} {a0 b0 : Int} {a1 b1 : Int} {a2 b2 : Int} {a3 b3 : Int} {a4 b4 : Int} {a5 b5 : Int} {a6 b6 : Int} {a7 b7 : Int} {a8 b8 : Int} {a9 b9 : Bool} {a10 b10 : Int} : ∀ w, (do eqGuard .eql 44 x y (.agg #[.int .i64 a0, .int .i64 a1, .int .i64 a2, .int .u64 a3, .int .u64 a4, .int .i64 a5, .int .i64 a6, .int .i64 a7, .int .i64 a8, .bool a9, .int .u64 a10]) (.agg #[.int .i64 b0, .int .i64 b1, .int .i64 b2, .int .u64 b3, .int .u64 b4, .int .i64 b5, .int .i64 b6, .int .i64 b7, .int .i64 b8, .bool b9, .int .u64 b10]); binOp .eql 44 (.agg #[.int .i64 a0, .int .i64 a1, .int .i64 a2, .int .u64 a3, .int .u64 a4, .int .i64 a5, .int .i64 a6, .int .i64 a7, .int .i64 a8, .bool a9, .int .u64 a10]) (.agg #[.int .i64 b0, .int .i64 b1, .int .i64 b2, .int .u64 b3, .int .u64 b4, .int .i64 b5, .int .i64 b6, .int .i64 b7, .int .i64 b8, .bool b9, .int .u64 b10]) : Sem Value).run Try.prog w = .ok (.bool (((decide (a0 = b0) && (decide (a1 = b1) && (decide (a2 = b2) && (decide (a3 = b3) && (decide (a4 = b4) && (decide (a5 = b5) && (decide (a6 = b6) && (decide (a7 = b7) && (decide (a8 = b8) && (decide (a9 = b9) && decide (a10 = b10)))))))))))))) w := by
  intro w
  simp only [Sem.run_bind, run_eqGuard_agg _ _ _ _ _ _ _ Try.eqGuardType44, Result.andThen_ok, run_eql_struct, run_neq_struct, eqc_44]
theorem neq_44 {x y : Operand} {a0 b0 : Int} {a1 b1 : Int} {a2 b2 : Int} {a3 b3 : Int} {a4 b4 : Int} {a5 b5 : Int} {a6 b6 : Int} {a7 b7 : Int} {a8 b8 : Int} {a9 b9 : Bool} {a10 b10 : Int} : ∀ w, (do eqGuard .neq 44 x y (.agg #[.int .i64 a0, .int .i64 a1, .int .i64 a2, .int .u64 a3, .int .u64 a4, .int .i64 a5, .int .i64 a6, .int .i64 a7, .int .i64 a8, .bool a9, .int .u64 a10]) (.agg #[.int .i64 b0, .int .i64 b1, .int .i64 b2, .int .u64 b3, .int .u64 b4, .int .i64 b5, .int .i64 b6, .int .i64 b7, .int .i64 b8, .bool b9, .int .u64 b10]); binOp .neq 44 (.agg #[.int .i64 a0, .int .i64 a1, .int .i64 a2, .int .u64 a3, .int .u64 a4, .int .i64 a5, .int .i64 a6, .int .i64 a7, .int .i64 a8, .bool a9, .int .u64 a10]) (.agg #[.int .i64 b0, .int .i64 b1, .int .i64 b2, .int .u64 b3, .int .u64 b4, .int .i64 b5, .int .i64 b6, .int .i64 b7, .int .i64 b8, .bool b9, .int .u64 b10]) : Sem Value).run Try.prog w = .ok (.bool (!((decide (a0 = b0) && (decide (a1 = b1) && (decide (a2 = b2) && (decide (a3 = b3) && (decide (a4 = b4) && (decide (a5 = b5) && (decide (a6 = b6) && (decide (a7 = b7) && (decide (a8 = b8) && (decide (a9 = b9) && decide (a10 = b10)))))))))))))) w := by
  intro w
  simp only [Sem.run_bind, run_eqGuard_agg _ _ _ _ _ _ _ Try.eqGuardType44, Result.andThen_ok, run_eql_struct, run_neq_struct, eqc_44]
end Go.Proofs.Ytolcdmbjddekeaa
