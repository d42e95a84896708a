/-
  '&&' and '||' without parting the walk: a guarded operation yields a value under a condition; the pick takes the conditions together. What floats over an effect.
-/
import Derived.Test.YtbfplncdmbjjhaaGreatDDraw
set_option linter.unusedSimpArgs false
set_option linter.unusedVariables false
namespace Go.SLD

/-- v under the condition g. -/
def gv (g : Bool) (v : Value) : Value := match g with
  | true => v
  | false => undef

theorem gl {a b : Bool} (h : (a && b) = true) : a = true := by cases a <;> simp_all

section
variable {M : Mach} {all : Array Oper} {o : Oper} {env : Env} {ctx : Ctx} {v : Value}

theorem gvh {x : Operand} {g : Bool} (hx : evalO env x = some (gv g v)) (h : g = true) : evalO env x = some v := by subst h; exact hx
theorem gva {x : Operand} {g c : Bool} (hx : evalO env x = some (gv (g && c) v)) (h : g = true) : evalO env x = some (gv c v) := by subst h; simpa using hx

theorem QY.cond0 {j : Nat} {want b : Bool} {d : Tmp} (hgd : o.guard = some (j, want)) (hj : (all[j]?).bind (·.dst) = some d) (hb : look env d = some (.bool b))
    (h : (b == want) = true → QY M all { o with guard := none } env ctx v) : QY M all o env ctx (gv (b == want) v) := by
  by_cases e : (b == want) = true
  · rw [e]
    have : b = want := by simpa using e
    subst this
    exact QY.guard hgd hj hb (h e)
  · have e' : (b == want) = false := by simpa using e
    rw [e']
    refine QY.skip hgd hj hb ?_
    cases b <;> cases want <;> simp_all

theorem QY.condn {j : Nat} {want b g : Bool} {d : Tmp} (hgd : o.guard = some (j, want)) (hj : (all[j]?).bind (·.dst) = some d) (hb : look env d = some (gv g (.bool b)))
    (h : (g && (b == want)) = true → QY M all { o with guard := none } env ctx v) : QY M all o env ctx (gv (g && (b == want)) v) := by
  cases g with
  | true => exact QY.cond0 hgd hj hb (by simpa using h)
  | false =>
    intro a w hr hi
    have hd : d ∈ o.looksAt all := by simp [Oper.looksAt, hgd, hj]
    have ht := hr.ag d _ hd hb
    have hy : yielded all a.tmps j = none := by simp only [yielded, hj, Option.bind_some, ht, gv, undef]
    exact .inr ⟨by simp [Region.wanted, hgd, hy], rfl⟩

variable {dst : Option Tmp} {ty : TypeId} {pos : String} {aft : Array Edge}

theorem q_and {c x y : Operand} {b u : Bool} (hc : evalO env c = some (.bool b)) (hx : evalO env x = some (gv (b == true) (.bool u))) (hy : evalO env y = some (.bool false)) :
    QY M all ⟨dst, .pick c x y, ty, pos, aft, none⟩ env ctx (.bool (b && u)) := by
  cases b with
  | true => exact q_pick_t hc hx
  | false => exact q_pick_f hc hy

theorem q_or {c x y : Operand} {b u : Bool} (hc : evalO env c = some (.bool b)) (hx : evalO env x = some (.bool true)) (hy : evalO env y = some (gv (b == false) (.bool u))) :
    QY M all ⟨dst, .pick c x y, ty, pos, aft, none⟩ env ctx (.bool (b || u)) := by
  cases b with
  | true => exact q_pick_t hc hx
  | false => exact q_pick_f hc hy

theorem EY.of_q {op : Op} (h : QY M all ⟨dst, op, ty, pos, aft, none⟩ env ctx v) : EY M all ⟨dst, op, ty, pos, aft, none⟩ env ctx (fun u c => u = v ∧ c = ctx) := by
  intro a w hr hi
  rcases h a w hr hi with ⟨hw, hq⟩ | ⟨hw, _⟩
  · exact ⟨hw, quiet_wp hq fun w' hs => ⟨v, ctx, rfl, hi.same hs, rfl, rfl⟩⟩
  · simp [Region.wanted] at hw

theorem st_nil : Stable M all [] env ctx := fun _ h => by cases h
theorem st_cons {j : Nat} {fl : List Nat} {u : Value} (ho : all[j]? = some o) (hd : o.dst.all (fun d => (look env d).isSome) = true) (hu : ∀ d, o.dst = some d → look env d = some u) (hq : QY M all o env ctx u) (h : Stable M all fl env ctx) : Stable M all (j :: fl) env ctx := by
  intro k hk
  rcases List.mem_cons.1 hk with rfl | hk
  · exact ⟨o, u, ho, hu, hq⟩
  · exact h k hk

/-- For an operation that writes a slot. -/
theorem st {j : Nat} {fl : List Nat} {u : Value} {op : Op} {d : Tmp} {g : Option (Nat × Bool)} (ho : all[j]? = some ⟨some d, op, ty, pos, aft, g⟩) (hu : look env d = some u) (hq : QY M all ⟨some d, op, ty, pos, aft, g⟩ env ctx u) (h : Stable M all fl env ctx) : Stable M all (j :: fl) env ctx := by
  intro k hk
  rcases List.mem_cons.1 hk with rfl | hk
  · exact ⟨_, u, ho, fun d' hd' => by obtain rfl := Option.some.inj hd'; exact hu, hq⟩
  · exact h k hk
end
end Go.SLD
