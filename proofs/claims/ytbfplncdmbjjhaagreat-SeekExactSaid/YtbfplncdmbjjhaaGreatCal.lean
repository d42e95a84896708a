/-
  Rules for calls and slices.
-/
import Derived.Test.YtbfplncdmbjjhaaGreatBlk
set_option linter.unusedSimpArgs false
set_option linter.unusedVariables false
namespace Go.SL

theorem evalOs_map {env : Env} : ∀ {xs : List Operand} {vs : List Value} {ρ : Operand → Value}, evalOs env xs = some vs → (∀ x u, x ∈ xs → evalO env x = some u → ρ x = u) → xs.map ρ = vs
  | [], vs, ρ, h, _ => by simp [evalOs] at h; subst h; rfl
  | x :: xs, vs, ρ, h, hρ => by
    simp only [evalOs] at h
    cases h1 : evalO env x with
    | none => simp [h1] at h
    | some u =>
      cases h2 : evalOs env xs with
      | none => simp [h1, h2] at h
      | some us =>
        simp [h1, h2] at h
        subst h
        simp only [List.map_cons]
        rw [hρ x u (List.mem_cons_self ..) h1, evalOs_map h2 fun x u hx => hρ x u (List.mem_cons_of_mem _ hx)]

section
variable {M : Mach} {all : Array Oper} {env : Env} {ctx : Ctx} {dst : Option Tmp} {ty : TypeId} {pos : String} {aft : Array Edge}

theorem run_callv {f : FuncId} {x : Operand} {args : List Operand} {tys : Array TypeId} {first cap : Array Value} {vs as : List Value} (hcall : ∀ args w, (callFunc f args).run M.P w = .ok (.enter f args) w)
    (hx : evalO env x = some (.func (.func f) first cap)) (ha : evalOs env args = some vs) (has : first.toList ++ vs ++ cap.toList = as) :
    ∀ (ρ : Operand → Value) w, (∀ y u, y ∈ (Op.call ⟨.value x, args.toArray, tys⟩).operands.toList → evalO env y = some u → ρ y = u) → (execOp ρ ⟨dst, .call ⟨.value x, args.toArray, tys⟩, ty, pos, aft, none⟩).run M.P w = .ok (.enter f as.toArray) w := by
  intro ρ w h
  have h1 : ρ x = _ := h x _ (by simp [Op.operands, Call.operands]) hx
  have h2 : args.map ρ = vs := evalOs_map ha fun y u hy => h y u (by simp [Op.operands, Call.operands, hy])
  subst has
  have h3 : args.toArray.map ρ = vs.toArray := by rw [← h2]; simp
  simp only [execOp, Sem.run_bind, resolve, h1, h3, Deferred.ofValue, Sem.run_pure, Result.andThen_ok, invoke, hcall]
  have h4 : first ++ vs.toArray ++ cap = (first.toList ++ vs ++ cap.toList).toArray := by
    apply Array.ext'
    simp
  rw [h4]

theorem e_call {f : FuncId} {x : Operand} {args : List Operand} {tys : Array TypeId} {first cap : Array Value} {vs as : List Value} {pre r : Ctx} {Q : Value → Ctx → Prop} (hcall : ∀ args w, (callFunc f args).run M.P w = .ok (.enter f args) w)
    (hx : evalO env x = some (.func (.func f) first cap)) (ha : evalOs env args = some vs) (has : first.toList ++ vs ++ cap.toList = as) (hs : ∀ w, Inv M.B M.own ctx w → Ctr M.P f as w pre Q) (hp : Pick pre ctx r) :
    EY M all ⟨dst, .call ⟨.value x, args.toArray, tys⟩, ty, pos, aft, none⟩ env ctx (fun v c => ∃ post, Q v post ∧ c = post ++ r) :=
  EY.call rfl (run_callv hcall hx ha has) hp hs fun _ post hq => ⟨post, hq, rfl⟩

theorem q_call {f : FuncId} {x : Operand} {args : List Operand} {tys : Array TypeId} {first cap : Array Value} {vs as : List Value} {pre r : Ctx} {v : Value} (hcall : ∀ args w, (callFunc f args).run M.P w = .ok (.enter f args) w)
    (hx : evalO env x = some (.func (.func f) first cap)) (ha : evalOs env args = some vs) (has : first.toList ++ vs ++ cap.toList = as) (hs : ∀ w, Inv M.B M.own ctx w → Ctr M.P f as w pre (fun u c => u = v ∧ c = pre)) (hp : Pick pre ctx r) :
    QY M all ⟨dst, .call ⟨.value x, args.toArray, tys⟩, ty, pos, aft, none⟩ env ctx v :=
  QY.call rfl (run_callv hcall hx ha has) hp hs

/-- What the results of a function are. -/
inductive RVs (M : Mach) (env : Env) (ctx : Ctx) : List ResultVar → List Value → Prop where
  | nil : RVs M env ctx [] []
  | tmp {t : Tmp} {v : Value} {rs : List ResultVar} {vs : List Value} : look env t = some v → RVs M env ctx rs vs → RVs M env ctx (.tmp t :: rs) (v :: vs)
  | cell {a : Tmp} {T : TypeId} {b off : Nat} {us : List Value} {rs : List ResultVar} {vs : List Value} : (∀ w, (isAgg T).run M.P w = .ok true w) → (∀ w, (sizeOf T).run M.P w = .ok us.length w) → look env a = some (.pointer (some ⟨b, off, none⟩)) →
      (∀ j v, us[j]? = some v → Rd M ctx b (off + j) v) → RVs M env ctx rs vs → RVs M env ctx (.cell a T :: rs) (.agg us.toArray :: vs)

def packR : List Value → Value
  | [v] => v
  | vs => .tuple vs.toArray

theorem RVs.run {M : Mach} {env : Env} {ctx : Ctx} {rs : List ResultVar} {vs : List Value} (h : RVs M env ctx rs vs) {a : Act} {w : World} (hr : Rep M.n env a) (hi : Inv M.B M.own ctx w) (f : ResultVar → Sem Value)
    (h1 : ∀ t, f (.tmp t) = pure (a.tmps.getD t undef)) (h2 : ∀ c t, f (.cell c t) = (do loadVar t (← asAddr (a.tmps.getD c undef)))) : (rs.mapM f).run M.P w = .ok vs w := by
  induction h with
  | nil => simp
  | tmp ht _ ih =>
    have := hr.ag _ _ ht
    simp only [List.mapM_cons, Sem.run_bind, Sem.run_pure, Result.andThen_ok, ih, h1, Array.getD_eq_getD_getElem?, this, Option.getD_some]
  | @cell ca T b off us rs vs hA hS ht hrd _ ih =>
    have := hr.ag _ _ ht
    have hl := run_loadCells_list (P := M.P) w ⟨b, off, none⟩ us (fun j v hv => by rw [Addr_add]; exact hrd j v hv w hi)
    simp only [List.mapM_cons, Sem.run_bind, Sem.run_pure, Result.andThen_ok, ih, h2, Array.getD_eq_getD_getElem?, this, Option.getD_some, asAddr, loadVar, hA, if_true, hS, hl]

theorem resL {M : Mach} {fn : Func} {Q : Value → Ctx → Prop} {env : Env} {ctx c c0 r : Ctx} {rs : List ResultVar} {vs : List Value} (hr : fn.results = rs.toArray) (hv : RVs M env ctx rs vs) (hp : Pick c0 ctx r) (hc : c0.flatten = c.flatten) (hq : Q (packR vs) c) : Res M fn Q env ctx := by
  refine ⟨_, c, c0, r, hp, hc, fun a w hrep hi => ?_, hq⟩
  unfold results
  rw [hr]
  simp only [Sem.run_bind]
  rw [List.mapM_toArray]
  simp only [Sem.run_map]
  rw [hv.run hrep hi _ (fun _ => rfl) (fun _ _ => rfl)]
  simp only [Result.andThen_ok, Sem.run_pure]
  congr 1
  match vs with
  | [] => rfl
  | [v] => rfl
  | a :: b :: r => simp [packR]

theorem ev_nil : evalOs env [] = some [] := rfl
theorem ev_cons {x : Operand} {xs : List Operand} {v : Value} {vs : List Value} (h1 : evalO env x = some v) (h2 : evalOs env xs = some vs) : evalOs env (x :: xs) = some (v :: vs) := by simp [evalOs, h1, h2]

/-- A call of a named function. -/
theorem e_cf {f : FuncId} {args : List Operand} {tys : Array TypeId} {vs : List Value} {pre r : Ctx} {Q : Value → Ctx → Prop} (hcall : ∀ args w, (callFunc f args).run M.P w = .ok (.enter f args) w)
    (ha : evalOs env args = some vs) (hs : ∀ w, Inv M.B M.own ctx w → Ctr M.P f vs w pre Q) (hp : Pick pre ctx r) :
    EY M all ⟨dst, .call ⟨.value (.func f), args.toArray, tys⟩, ty, pos, aft, none⟩ env ctx (fun v c => ∃ post, Q v post ∧ c = post ++ r) :=
  e_call hcall (first := #[]) (cap := #[]) rfl ha (by simp) hs hp

theorem q_cf {f : FuncId} {args : List Operand} {tys : Array TypeId} {vs : List Value} {pre r : Ctx} {v : Value} (hcall : ∀ args w, (callFunc f args).run M.P w = .ok (.enter f args) w)
    (ha : evalOs env args = some vs) (hs : ∀ w, Inv M.B M.own ctx w → Ctr M.P f vs w pre (fun u c => u = v ∧ c = pre)) (hp : Pick pre ctx r) :
    QY M all ⟨dst, .call ⟨.value (.func f), args.toArray, tys⟩, ty, pos, aft, none⟩ env ctx v :=
  q_call hcall (first := #[]) (cap := #[]) rfl ha (by simp) hs hp

theorem run_inv {f : FuncId} {x : Operand} {name : String} {args : List Operand} {tys : Array TypeId} {T : TypeId} {rv : Value} {vs : List Value} (hm : ∀ args w, (callMethod (.iface T rv) name args).run M.P w = .ok (.enter f (#[rv] ++ args)) w)
    (hx : evalO env x = some (.iface T rv)) (ha : evalOs env args = some vs) :
    ∀ (ρ : Operand → Value) w, (∀ y u, y ∈ (Op.call ⟨.invoke x name, args.toArray, tys⟩).operands.toList → evalO env y = some u → ρ y = u) → (execOp ρ ⟨dst, .call ⟨.invoke x name, args.toArray, tys⟩, ty, pos, aft, none⟩).run M.P w = .ok (.enter f (rv :: vs).toArray) w := by
  intro ρ w h
  have h1 : ρ x = _ := h x _ (by simp [Op.operands, Call.operands]) hx
  have h2 : args.map ρ = vs := evalOs_map ha fun y u hy => h y u (by simp [Op.operands, Call.operands, hy])
  have h3 : args.toArray.map ρ = vs.toArray := by rw [← h2]; simp
  simp only [execOp, Sem.run_bind, resolve, h1, h3, Sem.run_pure, Result.andThen_ok, invoke]
  have h4 : (#[Value.iface T rv] ++ vs.toArray)[0]? = some (.iface T rv) := by simp
  have h5 : (#[Value.iface T rv] ++ vs.toArray).extract 1 (#[Value.iface T rv] ++ vs.toArray).size = vs.toArray := by
    apply Array.ext'
    simp
  simp only [h4, h5, hm]
  have h6 : #[rv] ++ vs.toArray = (rv :: vs).toArray := by simp
  rw [h6]

theorem e_inv {f : FuncId} {x : Operand} {name : String} {args : List Operand} {tys : Array TypeId} {T : TypeId} {rv : Value} {vs : List Value} {pre r : Ctx} {Q : Value → Ctx → Prop} (hm : ∀ args w, (callMethod (.iface T rv) name args).run M.P w = .ok (.enter f (#[rv] ++ args)) w)
    (hx : evalO env x = some (.iface T rv)) (ha : evalOs env args = some vs) (hs : ∀ w, Inv M.B M.own ctx w → Ctr M.P f (rv :: vs) w pre Q) (hp : Pick pre ctx r) :
    EY M all ⟨dst, .call ⟨.invoke x name, args.toArray, tys⟩, ty, pos, aft, none⟩ env ctx (fun v c => ∃ post, Q v post ∧ c = post ++ r) :=
  EY.call rfl (run_inv hm hx ha) hp hs fun _ post hq => ⟨post, hq, rfl⟩

theorem q_inv {f : FuncId} {x : Operand} {name : String} {args : List Operand} {tys : Array TypeId} {T : TypeId} {rv : Value} {vs : List Value} {pre r : Ctx} {v : Value} (hm : ∀ args w, (callMethod (.iface T rv) name args).run M.P w = .ok (.enter f (#[rv] ++ args)) w)
    (hx : evalO env x = some (.iface T rv)) (ha : evalOs env args = some vs) (hs : ∀ w, Inv M.B M.own ctx w → Ctr M.P f (rv :: vs) w pre (fun u c => u = v ∧ c = pre)) (hp : Pick pre ctx r) :
    QY M all ⟨dst, .call ⟨.invoke x name, args.toArray, tys⟩, ty, pos, aft, none⟩ env ctx v :=
  QY.call rfl (run_inv hm hx ha) hp hs

theorem q_mkF {fn : Fn} {first cap : List Operand} {vs us : List Value} (h1 : evalOs env first = some vs) (h2 : evalOs env cap = some us) : QY M all ⟨dst, .makeFunc fn first.toArray cap.toArray, ty, pos, aft, none⟩ env ctx (.func fn vs.toArray us.toArray) :=
  QY.val rfl fun ρ w h _ => by
    have e1 : first.map ρ = vs := evalOs_map h1 fun y u hy => h y u (by simp [Op.operands, hy])
    have e2 : cap.map ρ = us := evalOs_map h2 fun y u hy => h y u (by simp [Op.operands, hy])
    simp [execOp, Instr.makeFunc, e1, e2, Result.andThen]

/-! ### Slices -/

theorem q_ia {t e : TypeId} {x ix : Operand} {b off n cap sz : Nat} {k : IntKind} {i : Int} (hu : ∀ w, (underlying t).run M.P w = .ok (.slice e) w) (hS : ∀ w, (sizeOf e).run M.P w = .ok sz w)
    (hx : evalO env x = some (.slice (some ⟨b, off, none⟩) n cap)) (hi : evalO env ix = some (.int k i)) (h : 0 ≤ i ∧ i < n) : QY M all ⟨dst, .indexAddr t x ix, ty, pos, aft, none⟩ env ctx (.pointer (some ⟨b, off + i.toNat * sz, none⟩)) :=
  QY.val rfl fun ρ w hρ _ => by
    simp only [execOp, hρ x _ (by simp [Op.operands]) hx, hρ ix _ (by simp [Op.operands]) hi, Instr.indexAt, asIntOf, Sem.run_bind, Sem.run_pure, Result.andThen_ok, hu]
    simp [h, hS, Addr_add, Result.andThen]

/-- A slice and an index as natural numbers. -/
theorem q_ian {t e : TypeId} {x ix : Operand} {b off n cap sz i : Nat} {k : IntKind} (hu : ∀ w, (underlying t).run M.P w = .ok (.slice e) w) (hS : ∀ w, (sizeOf e).run M.P w = .ok sz w)
    (hx : evalO env x = some (.slice (some ⟨b, off, none⟩) n cap)) (hi : evalO env ix = some (.int k (i : Int))) (h : i < n) : QY M all ⟨dst, .indexAddr t x ix, ty, pos, aft, none⟩ env ctx (.pointer (some ⟨b, off + i * sz, none⟩)) :=
  q_ia (i := (i : Int)) hu hS hx hi (by omega)

theorem q_iarr {t e : TypeId} {x ix : Operand} {b off n sz : Nat} {k : IntKind} {i : Int} (hu : ∀ w, (underlying t).run M.P w = .ok (.array n e) w) (hS : ∀ w, (sizeOf e).run M.P w = .ok sz w)
    (hx : evalO env x = some (.pointer (some ⟨b, off, none⟩))) (hi : evalO env ix = some (.int k i)) (h : 0 ≤ i ∧ i < n) : QY M all ⟨dst, .indexAddr t x ix, ty, pos, aft, none⟩ env ctx (.pointer (some ⟨b, off + i.toNat * sz, none⟩)) :=
  QY.val rfl fun ρ w hρ _ => by
    simp only [execOp, hρ x _ (by simp [Op.operands]) hx, hρ ix _ (by simp [Op.operands]) hi, Instr.indexAt, Instr.sureAddr, asIntOf, Sem.run_bind, Sem.run_pure, Result.andThen_ok, hu]
    simp [h, hS, Addr_add, Result.andThen]

def sliced (a : Option Addr) (cap l sz : Nat) : Option Addr := if cap = l then a else a.map (·.add (l * sz))

theorem q_slice_hi {t e : TypeId} {x hx : Operand} {a : Option Addr} {n cap sz h : Nat} {k : IntKind} (hu : ∀ w, (underlying t).run M.P w = .ok (.slice e) w) (hS : ∀ w, (sizeOf e).run M.P w = .ok sz w)
    (hxx : evalO env x = some (.slice a n cap)) (hh : evalO env hx = some (.int k (h : Int))) (hle : h ≤ cap) : QY M all ⟨dst, .slice t x none (some hx) none, ty, pos, aft, none⟩ env ctx (.slice a h cap) :=
  QY.val rfl fun ρ w hρ _ => by
    simp only [execOp, Instr.sliceAt, Sem.run_bind, hu, Result.andThen_ok, Option.map_none, Option.map_some, hρ x _ (by simp [Op.operands]) hxx, hρ hx _ (by simp [Op.operands]) hh, Instr.slice, Instr.sliceBounds, Instr.sliceBound, asIntOf, Sem.run_pure]
    simp [hle, hS, Result.andThen, Addr_add, Addr.add]

theorem q_slice_lo {t e : TypeId} {x lx : Operand} {a : Option Addr} {n cap sz l : Nat} {k : IntKind} (hu : ∀ w, (underlying t).run M.P w = .ok (.slice e) w) (hS : ∀ w, (sizeOf e).run M.P w = .ok sz w)
    (hxx : evalO env x = some (.slice a n cap)) (hl : evalO env lx = some (.int k (l : Int))) (hle : l ≤ n) : QY M all ⟨dst, .slice t x (some lx) none none, ty, pos, aft, none⟩ env ctx (.slice (sliced a cap l sz) (n - l) (cap - l)) :=
  QY.val rfl fun ρ w hρ _ => by
    simp only [execOp, Instr.sliceAt, Sem.run_bind, hu, Result.andThen_ok, Option.map_none, Option.map_some, hρ x _ (by simp [Op.operands]) hxx, hρ lx _ (by simp [Op.operands]) hl, Instr.slice, Instr.sliceBounds, Instr.sliceBound, asIntOf, Sem.run_pure]
    by_cases hc : cap = l
    · subst hc; simp [hle, hS, Result.andThen, sliced]
    · have hc' : cap - l ≠ cap ∨ True := .inr trivial
      simp [hle, hS, Result.andThen, sliced, hc]

/-- vs laid from off on. -/
def setL (cs : List Value) (off : Nat) : List Value → List Value
  | [] => cs
  | v :: r => setL (cs.set off v) (off + 1) r

/-- The parts laid over cells, in lists. -/
def fillL (place : Nat → Option (Nat × Nat)) (cells : List Value) : List (Nat × Value) → Option (List Value)
  | [] => some cells
  | (i, v) :: r => match place i with
    | none => none
    | some (off, size) => match (Nat.beq v.cells.toList.length size && Nat.ble (off + v.cells.toList.length) cells.length) with
      | true => fillL place (setL cells off v.cells.toList) r
      | false => none

theorem setL_len : ∀ (vs cs : List Value) (off : Nat), (setL cs off vs).length = cs.length
  | [], _, _ => rfl
  | v :: vs, cs, off => by simp only [setL]; rw [setL_len vs]; simp

theorem foldl_setL (off : Nat) : ∀ (vs : List Value) (k : Nat) (cells : Array Value), ((vs.zipIdx k).foldl (fun cs (x : Value × Nat) => cs.setIfInBounds (off + x.2) x.1) cells) = (setL cells.toList (off + k) vs).toArray
  | [], k, cells => by simp [setL]
  | v :: vs, k, cells => by
    simp only [List.zipIdx_cons, List.foldl_cons, setL]
    rw [foldl_setL off vs (k + 1)]
    simp [Nat.add_assoc]

theorem fill_list (place : Nat → Option (Nat × Nat)) : ∀ (ps : List (Nat × Value)) (cells : Array Value) (l : List Value), fillL place cells.toList ps = some l → Instr.fill place cells ps = some l.toArray
  | [], cells, l, h => by simp only [fillL, Option.some.injEq] at h; subst h; simp [Instr.fill]
  | (i, v) :: ps, cells, l, h => by
    simp only [fillL] at h
    simp only [Instr.fill]
    cases hp : place i with
    | none => rw [hp] at h; cases h
    | some os =>
      obtain ⟨off, size⟩ := os
      rw [hp] at h
      dsimp only at h ⊢
      cases hc : (Nat.beq v.cells.toList.length size && Nat.ble (off + v.cells.toList.length) cells.toList.length) with
      | false => rw [hc] at h; cases h
      | true =>
        rw [hc] at h
        simp only [Bool.and_eq_true] at hc
        have h1 : v.cells.size = size := by have := Nat.eq_of_beq_eq_true hc.1; simpa using this
        have h2 : off + v.cells.size ≤ cells.size := by have := Nat.le_of_ble_eq_true hc.2; simpa using this
        rw [if_neg (by simp [h1]; omega)]
        have hf : (v.cells.zipIdx.foldl (fun cs (x : Value × Nat) => cs.setIfInBounds (off + x.2) x.1) cells) = (setL cells.toList off v.cells.toList).toArray := by
          rw [← Array.foldl_toList, Array.toList_zipIdx]
          simpa using foldl_setL off v.cells.toList 0 cells
        have hf' : (v.cells.zipIdx.foldl (init := cells) fun cs (c, j) => cs.setIfInBounds (off + j) c) = (setL cells.toList off v.cells.toList).toArray := hf
        rw [hf']
        exact fill_list place ps _ l (by simpa using h)

/-- A slice written out. zl: its zero cells. -/
theorem e_bslice {t e : TypeId} {len sz : Nat} {ps : List (Nat × Operand)} {us : List Value} {z : Value} {zl cs : List Value} (hu : ∀ w, (underlying t).run M.P w = .ok (.slice e) w) (hS : ∀ w, (sizeOf e).run M.P w = .ok sz w)
    (hz : ∀ w, (zeroValue e).run M.P w = .ok z w) (hsm : Nat.ble (len * sz) 16777216 = true) (hzl : ((Array.range (len * sz)).map fun i => (if len * sz = 0 then #[] else z.cells)[i % (if len * sz = 0 then #[] else z.cells).size]!) = zl.toArray) (hx : evalOs env (ps.map (·.2)) = some us)
    (hf : fillL (fun i => some (i * sz, sz)) zl ((ps.map (·.1)).zip us) = some cs) :
    EY M all ⟨dst, .buildSlice t len ps.toArray, ty, pos, aft, none⟩ env ctx (fun v c => ∃ b, v = .slice (some ⟨b, 0, none⟩) len len ∧ c = [(b, .cells cs.toArray e (0, 0))] :: ctx) :=
  EY.mk rfl fun ρ w h hi => ⟨.slice (some ⟨w.heap.size, 0, none⟩) len len, w.alloc (.cells cs.toArray e (0, 0)), _, .inl (by
    have hle : ¬ len * sz > 2 ^ 24 := by have := Nat.le_of_ble_eq_true hsm; omega
    have hus : (ps.map (·.2)).map ρ = us := evalOs_map hx fun y u hy => h y u (by simpa [Op.operands] using hy)
    have hm : (ps.toArray.map fun p => (p.1, ρ p.2)).toList = (ps.map (·.1)).zip us := by
      rw [← hus]
      simp only [List.map_toArray, List.map_map]
      clear hx hf hus h
      induction ps with
      | nil => rfl
      | cons p ps ih => simp only [List.map_cons, List.zip_cons_cons]; rw [ih]; rfl
    have hf := fill_list _ _ zl.toArray _ (by simpa using hf)
    rw [← hzl] at hf
    have e1 : execOp ρ ⟨dst, .buildSlice t len ps.toArray, ty, pos, aft, none⟩ = (do pure (.value (← Instr.buildSlice t len (ps.toArray.map fun p => (p.1, ρ p.2))))) := rfl
    rw [e1]
    have e2 : (Instr.buildSlice t len (ps.toArray.map fun p => (p.1, ρ p.2))).run M.P w = .ok (.slice (some ⟨w.heap.size, 0, none⟩) len len) (w.alloc (.cells cs.toArray e (0, 0))) := by
      unfold Instr.buildSlice
      simp only [Sem.run_bind, hu, Result.andThen_ok, hS, Sem.run_ite, if_neg hle, Sem.run_pure, hm]
      by_cases h0 : len * sz = 0
      · simp only [h0, if_true, Result.andThen_ok] at hf ⊢
        rw [hf]
        simp [newRow, Result.andThen]
      · simp only [if_neg h0] at hf ⊢
        simp only [hz, Result.andThen_ok, hf]
        simp [newRow, Result.andThen]
    simp only [Sem.run_bind, e2, Result.andThen_ok, Sem.run_pure]), hi.alloc _, _, rfl, rfl⟩
end
end Go.SL
