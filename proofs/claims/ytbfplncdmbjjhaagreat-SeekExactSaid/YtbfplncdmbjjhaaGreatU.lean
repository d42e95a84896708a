/-
  Rows of words.
-/
import Derived.Test.YtbfplncdmbjjhaaGreatTy
import Derived.Test.YtbfplncdmbjjhaaGreatRow
set_option linter.unusedSimpArgs false
set_option linter.unusedVariables false
namespace Go.Proofs.YtbfplncdmbjjhaaGreat
open Go Go.SL
def layU : Lay Int where
  enc := fun x => [.int .u64 x]
  size := 1
  pos := by decide
  len := fun _ => rfl
  one := by
    intro a u h
    simp only [List.mem_singleton] at h
    subst h; rfl
theorem ap_U {B : World} {own : List Nat} {n : Nat} {all : Array Oper} {env : Env} {ctx : Ctx} {dst : Option Tmp} {ty : TypeId} {pos : String} {aft : Array Edge} {x y : Operand} {A : Atom} {v u : Value} {L N : List Int} {c' : Atom → Ctx}
    (hA : Row layU 23 A v L) (hm : ∀ A', Upd ctx A A' (c' A')) (hx : evalO env x = some v) (hy : evalO env y = some u) (hs : Src ⟨Tryz.prog, B, own, n⟩ ctx u N.length (layU.all N)) (hl : L.length + N.length ≤ 1099511627776) :
    EY ⟨Tryz.prog, B, own, n⟩ all ⟨dst, .call ⟨.builtin .append, #[x, y], #[204, 204]⟩, ty, pos, aft, none⟩ env ctx (fun v' c => ∃ A', Row layU 23 A' v' (L ++ N) ∧ c = c' A') :=
  e_append (Y := layU) (i := Tryz.t23) (bytes := 8) Tryz.underlying204 (by kernel_rfl) rfl rfl rfl rfl hA hm hx hy hs (by omega) (by simp only [maxLen]; omega)
end Go.Proofs.YtbfplncdmbjjhaaGreat
