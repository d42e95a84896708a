/-
  Words of 64 bits as whole numbers.
-/
import Derived.Test.YtbfplncdmbjjhaaGreatCal
set_option linter.unusedSimpArgs false
set_option linter.unusedVariables false
namespace Go.SL

theorem wrapU {x : Int} (h0 : 0 ≤ x) (h : x < 18446744073709551616) : IntKind.u64.wrap x = x := wu64 ⟨h0, h⟩

theorem bv_ofInt (a : Nat) : BitVec.ofInt 64 (a : Int) = BitVec.ofNat 64 a := by
  apply BitVec.eq_of_toNat_eq
  simp [BitVec.toNat_ofInt]

theorem wrap_toNat (b : BitVec 64) : IntKind.u64.wrap (b.toNat : Int) = b.toNat := by
  have := b.isLt
  exact wrapU (by omega) (by omega)

/-- An upper field is laid over a word that has none of its bits. -/
theorem put_bits {a d : Nat} (h : a + d ≤ 64) {w x : Nat} (hw : w < 2 ^ a) (hx : x < 2 ^ d) :
    (((BitVec.ofNat 64 w) &&& ~~~(BitVec.ofNat 64 ((2 ^ d - 1) * 2 ^ a))) ||| BitVec.ofNat 64 (x * 2 ^ a)).toNat = w + x * 2 ^ a := by
  have hp : (2 : Nat) ^ (a + d) ≤ 2 ^ 64 := Nat.pow_le_pow_right (by omega) h
  have hp2 : (2 : Nat) ^ a * 2 ^ d = 2 ^ (a + d) := (Nat.pow_add 2 a d).symm
  have hda : 0 < (2 : Nat) ^ d := Nat.pow_pos (by omega)
  have haa : 0 < (2 : Nat) ^ a := Nat.pow_pos (by omega)
  have hxa : x * 2 ^ a + 2 ^ a ≤ 2 ^ (a + d) := by
    rw [← hp2]
    calc x * 2 ^ a + 2 ^ a = (x + 1) * 2 ^ a := by rw [Nat.succ_mul]
      _ ≤ 2 ^ d * 2 ^ a := Nat.mul_le_mul_right _ (by omega)
      _ = 2 ^ a * 2 ^ d := Nat.mul_comm _ _
  have e1 : (BitVec.ofNat 64 w) &&& ~~~(BitVec.ofNat 64 ((2 ^ d - 1) * 2 ^ a)) = BitVec.ofNat 64 w := by
    apply BitVec.eq_of_getLsbD_eq
    intro i hi
    simp only [BitVec.getLsbD_and, BitVec.getLsbD_not, BitVec.getLsbD_ofNat, hi, decide_true, Bool.true_and]
    by_cases hia : i < a
    · have : ((2 ^ d - 1) * 2 ^ a).testBit i = false := by rw [Nat.testBit_mul_two_pow]; simp; omega
      rw [this]; simp
    · have : w.testBit i = false := Nat.testBit_lt_two_pow (Nat.lt_of_lt_of_le hw (Nat.pow_le_pow_right (by omega) (by omega)))
      rw [this]; simp
  rw [e1, BitVec.toNat_or, BitVec.toNat_ofNat, BitVec.toNat_ofNat, Nat.mod_eq_of_lt (by omega), Nat.mod_eq_of_lt (by omega), Nat.or_comm, ← Nat.shiftLeft_eq, ← Nat.shiftLeft_add_eq_or_of_lt hw, Nat.shiftLeft_eq, Nat.add_comm]
end Go.SL
