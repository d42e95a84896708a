/-
  Rules for the operations, over the separation logic of the text before.
-/
import Derived.Test.YtbfplncdmbjjhaaGreatSl
set_option linter.unusedSimpArgs false
set_option linter.unusedVariables false
namespace Go.SL

/-- In every world of the state the cell reads so. -/
def Rd (M : Mach) (ctx : Ctx) (b off : Nat) (u : Value) : Prop := ∀ w, Inv M.B M.own ctx w → w.cell? ⟨b, off, none⟩ = some u

theorem rd_chunk {M : Mach} {ctx : Ctx} {b off : Nat} {cs : Array Value} {T : TypeId} {fz : Nat × Nat} {v : Value} (hm : [(b, .cells cs T fz)] ∈ ctx) (hv : cs[off]? = some v) : Rd M ctx b off v := by
  intro w hi
  have := hi.heap b _ (List.mem_flatten.2 ⟨_, hm, List.mem_singleton.2 rfl⟩)
  simp [World.cell?, this, hv]

/-- A cell of a block that was there at the beginning and is not owned. -/
theorem rd_base {M : Mach} {ctx : Ctx} {b off : Nat} {v : Value} (hc : M.B.cell? ⟨b, off, none⟩ = some v) (ho : b ∉ M.own) : Rd M ctx b off v := by
  intro w hi
  have hlt : b < M.B.heap.size := World.block_lt_of_cell? M.B _ hc
  rw [← hc]
  simp only [World.cell?, hi.kept b hlt ho]

inductive Upd : Ctx → Atom → Atom → Ctx → Prop where
  | here {x y : Atom} {r : Ctx} : Upd (x :: r) x y (y :: r)
  | there {x y z : Atom} {r r' : Ctx} : Upd r x y r' → Upd (z :: r) x y (z :: r')

theorem Upd.perm {c : Ctx} {x y : Atom} {c' : Ctx} (h : Upd c x y c') : ∃ r, List.Perm c (x :: r) ∧ List.Perm c' (y :: r) := by
  induction h with
  | here => exact ⟨_, .refl _, .refl _⟩
  | there _ ih => obtain ⟨r, h1, h2⟩ := ih; exact ⟨_ :: r, (List.Perm.cons _ h1).trans (List.Perm.swap _ _ _), (List.Perm.cons _ h2).trans (List.Perm.swap _ _ _)⟩

/-- One block is written. -/
theorem Inv.upd {B : World} {own : List Nat} {c c' : Ctx} {w w' : World} {b : Nat} {o o' : Obj} (hu : Upd c [(b, o)] [(b, o')] c') (h : Inv B own c w)
    (hb : w'.heap[b]? = some o') (hne : ∀ k, k ≠ b → w'.heap[k]? = w.heap[k]?) (hs : w'.heap.size = w.heap.size) (ht : w'.tape = w.tape) (hos : w'.os = w.os) (hout : w'.output = w.output) : Inv B own c' w' := by
  obtain ⟨r, h1, h2⟩ := hu.perm
  have hi := h.perm h1
  have hn := hi.nd
  simp only [dom_cons, List.map_cons, List.map_nil, List.singleton_append, List.nodup_cons] at hn
  refine Inv.perm (h2.symm) ⟨?_, ?_, ?_, ?_, ?_, ht.trans h.tape, hos.trans h.os, hout.trans h.output⟩
  · intro k q hm
    simp only [List.flatten_cons, List.singleton_append, List.mem_cons, Prod.mk.injEq] at hm
    rcases hm with ⟨rfl, rfl⟩ | hm
    · exact hb
    · have hk : k ≠ b := fun e => hn.1 (by subst e; exact List.mem_map.2 ⟨_, hm, rfl⟩)
      rw [hne k hk]
      exact hi.heap k q (by simp only [List.flatten_cons, List.singleton_append, List.mem_cons]; exact .inr hm)
  · simpa only [dom_cons, List.map_cons, List.map_nil, List.singleton_append, List.nodup_cons] using hn
  · intro k hk
    exact hi.fresh k (by simpa only [dom_cons, List.map_cons, List.map_nil] using hk)
  · intro k hk ho
    have hkb : k ≠ b := fun e => by
      subst e
      rcases hi.fresh k (by simp [dom_cons]) with h3 | h3
      · exact ho h3
      · omega
    rw [hne k hkb, h.kept k hk ho]
  · rw [hs]; exact h.size

theorem Inv.alloc {B : World} {own : List Nat} {c : Ctx} {w : World} (h : Inv B own c w) (o : Obj) : Inv B own ([(w.heap.size, o)] :: c) (w.alloc o) := by
  have hlt : ∀ b, b ∈ dom c → b < w.heap.size := by
    intro b hb
    obtain ⟨⟨b', q⟩, hm, rfl⟩ := List.mem_map.1 hb
    exact h.lt hm
  refine ⟨?_, ?_, ?_, ?_, ?_, h.tape, h.os, h.output⟩
  · intro b q hm
    simp only [List.flatten_cons, List.singleton_append, List.mem_cons, Prod.mk.injEq] at hm
    simp only [World.alloc, Array.getElem?_push]
    rcases hm with ⟨rfl, rfl⟩ | hm
    · simp
    · rw [if_neg (Nat.ne_of_lt (h.lt hm))]; exact h.heap b q hm
  · simp only [dom_cons, List.map_cons, List.map_nil, List.singleton_append, List.nodup_cons]
    exact ⟨fun hm => Nat.lt_irrefl _ (hlt _ hm), h.nd⟩
  · intro b hb
    simp only [dom_cons, List.map_cons, List.map_nil, List.singleton_append, List.mem_cons] at hb
    rcases hb with rfl | hb
    · exact .inr h.size
    · exact h.fresh b hb
  · intro b hb ho
    simp only [World.alloc, Array.getElem?_push]
    rw [if_neg (Nat.ne_of_lt (Nat.lt_of_lt_of_le hb h.size))]
    exact h.kept b hb ho
  · simp only [World.alloc, Array.size_push]; exact Nat.le_succ_of_le h.size

theorem setCell_heap {w : World} {b off : Nat} {v : Value} {cs : Array Value} {T : TypeId} {fz : Nat × Nat} (h : w.heap[b]? = some (.cells cs T fz)) :
    (w.setCell ⟨b, off, none⟩ v).heap[b]? = some (.cells (cs.setIfInBounds off v) T fz) ∧ (∀ k, k ≠ b → (w.setCell ⟨b, off, none⟩ v).heap[k]? = w.heap[k]?) := by
  refine ⟨by simp [World.setCell, Array.getElem?_modify, h], fun k hk => ?_⟩
  simp only [World.setCell, Array.getElem?_modify]
  rw [if_neg (fun e => hk e.symm)]

/-- The cells vs laid from off on. -/
def setAll (cs : Array Value) (off : Nat) : List Value → Array Value
  | [] => cs
  | v :: r => setAll (cs.setIfInBounds off v) (off + 1) r

theorem run_storeCells {P : Program} {b off : Nat} {T : TypeId} : ∀ (vs : List Value) (i : Nat) (w : World) (cs : Array Value), w.heap[b]? = some (.cells cs T (0, 0)) → off + i + vs.length ≤ cs.size →
    (∀ u, u ∈ vs → u.oneCell' = true) → ∃ w', (storeCells ⟨b, off, none⟩ vs i).run P w = .ok () w' ∧ w'.heap[b]? = some (.cells (setAll cs (off + i) vs) T (0, 0)) ∧
      (∀ k, k ≠ b → w'.heap[k]? = w.heap[k]?) ∧ w'.heap.size = w.heap.size ∧ w'.tape = w.tape ∧ w'.os = w.os ∧ w'.output = w.output
  | [], i, w, cs, h, _, _ => ⟨w, by simp [storeCells], h, fun _ _ => rfl, rfl, rfl, rfl, rfl⟩
  | v :: vs, i, w, cs, h, hsz, h1 => by
    have ha : (Addr.mk b off none).add i = ⟨b, off + i, none⟩ := by
      unfold Addr.add
      split
      · rename_i h0; subst h0; rfl
      · rfl
    have hlt : off + i < cs.size := by simp only [List.length_cons] at hsz; omega
    have hc : w.cell? ⟨b, off + i, none⟩ = some cs[off + i] := by simp [World.cell?, h, hlt]
    have hf : w.frozen? ⟨b, off + i, none⟩ = false := by simp [World.frozen?, h]
    obtain ⟨g1, g2⟩ := setCell_heap (off := off + i) (v := v) h
    obtain ⟨w', r1, r2, r3, r4, r5, r6, r7⟩ := run_storeCells (off := off) vs (i + 1) (w.setCell ⟨b, off + i, none⟩ v) (cs.setIfInBounds (off + i) v) g1
      (by simp only [List.length_cons] at hsz; simp only [Array.size_setIfInBounds]; omega) (fun u hu => h1 u (List.mem_cons_of_mem _ hu))
    refine ⟨w', ?_, r2, fun k hk => (r3 k hk).trans (g2 k hk), by rw [r4]; simp, by rw [r5]; simp, by rw [r6]; rfl, by rw [r7]; rfl⟩
    simp only [storeCells, Sem.run_bind, ha, run_store P w _ v .plain (h1 v (List.mem_cons_self ..)), hc, hf, Bool.false_eq_true, if_false, Result.andThen_ok]
    exact r1

theorem w64 {x : Int} (h : -9223372036854775808 ≤ x ∧ x < 9223372036854775808) : IntKind.i64.wrap x = x := by
  obtain ⟨h1, h2⟩ := h
  simp only [IntKind.wrap, IntKind.bits, IntKind.signed, Bool.true_and, ge_iff_le, decide_eq_true_eq]
  split <;> omega
theorem wu64 {x : Int} (h : 0 ≤ x ∧ x < 18446744073709551616) : IntKind.u64.wrap x = x := by
  obtain ⟨h1, h2⟩ := h
  simp only [IntKind.wrap, IntKind.bits, IntKind.signed, Bool.false_and, Bool.false_eq_true, if_false]
  omega

theorem Addr_add (b off k : Nat) : (Addr.mk b off none).add k = ⟨b, off + k, none⟩ := by
  unfold Addr.add
  split
  · rename_i h0; subst h0; rfl
  · rfl

section
variable {M : Mach} {all : Array Oper} {env : Env} {ctx : Ctx} {dst : Option Tmp} {ty : TypeId} {pos : String} {aft : Array Edge}

theorem opv {op : Op} {x : Operand} {ρ : Operand → Value} {u : Value} (h : ∀ x u, x ∈ op.operands.toList → evalO env x = some u → ρ x = u) (hm : x ∈ op.operands.toList) (hx : evalO env x = some u) : ρ x = u := h x u hm hx

theorem q_move {x : Operand} {v : Value} (hx : evalO env x = some v) : QY M all ⟨dst, .move x, ty, pos, aft, none⟩ env ctx v :=
  QY.val rfl fun ρ w h _ => by simp [execOp, h x v (by simp [Op.operands]) hx]
theorem q_assign {x : Operand} {v : Value} (hx : evalO env x = some v) : QY M all ⟨dst, .assign x, ty, pos, aft, none⟩ env ctx v :=
  QY.val rfl fun ρ w h _ => by simp [execOp, h x v (by simp [Op.operands]) hx]
theorem q_pick_t {c a b : Operand} {v : Value} (hc : evalO env c = some (.bool true)) (ha : evalO env a = some v) : QY M all ⟨dst, .pick c a b, ty, pos, aft, none⟩ env ctx v :=
  QY.val rfl fun ρ w h _ => by simp [execOp, h c _ (by simp [Op.operands]) hc, h a _ (by simp [Op.operands]) ha, asBool, Result.andThen]
theorem q_pick_f {c a b : Operand} {v : Value} (hc : evalO env c = some (.bool false)) (hb : evalO env b = some v) : QY M all ⟨dst, .pick c a b, ty, pos, aft, none⟩ env ctx v :=
  QY.val rfl fun ρ w h _ => by simp [execOp, h c _ (by simp [Op.operands]) hc, h b _ (by simp [Op.operands]) hb, asBool, Result.andThen]

theorem q_load {t : TypeId} {x : Operand} {b off : Nat} {v : Value} (hA : ∀ w, (isAgg t).run M.P w = .ok false w) (hx : evalO env x = some (.pointer (some ⟨b, off, none⟩)))
    (hr : Rd M ctx b off v) : QY M all ⟨dst, .load t x, ty, pos, aft, none⟩ env ctx v :=
  QY.val rfl fun ρ w h hi => by
    simp [execOp, h x _ (by simp [Op.operands]) hx, Instr.loadAt, Instr.sureAddr, loadVar, hA, hr w hi, Result.andThen]

theorem q_loadN {t : TypeId} {x : Operand} {b off : Nat} {vs : List Value} (hA : ∀ w, (isAgg t).run M.P w = .ok true w) (hS : ∀ w, (sizeOf t).run M.P w = .ok vs.length w)
    (hx : evalO env x = some (.pointer (some ⟨b, off, none⟩))) (hr : ∀ j v, vs[j]? = some v → Rd M ctx b (off + j) v) : QY M all ⟨dst, .load t x, ty, pos, aft, none⟩ env ctx (.agg vs.toArray) :=
  QY.val rfl fun ρ w h hi => by
    have hl := run_loadCells_list (P := M.P) w ⟨b, off, none⟩ vs (fun j v hv => by rw [Addr_add]; exact hr j v hv w hi)
    simp [execOp, h x _ (by simp [Op.operands]) hx, Instr.loadAt, Instr.sureAddr, loadVar, hA, hS, hl, Result.andThen]

/-- A struct's cells, out of a block that is known whole. -/
theorem rd_range {b off : Nat} {cs : Array Value} {T : TypeId} {fz : Nat × Nat} {vs : List Value} (hm : [(b, .cells cs T fz)] ∈ ctx) (hv : (cs.toList.drop off).take vs.length = vs) :
    ∀ j v, vs[j]? = some v → Rd M ctx b (off + j) v := by
  intro j v hj
  refine rd_chunk hm ?_
  have hlt : j < vs.length := (List.getElem?_eq_some_iff.1 hj).1
  rw [← hv] at hj
  rw [List.getElem?_take_of_lt hlt, List.getElem?_drop] at hj
  simpa using hj

theorem q_nil {x : Operand} {a : Addr} (hx : evalO env x = some (.pointer (some a))) : QY M all ⟨dst, .nilCheck x, ty, pos, aft, none⟩ env ctx (.pointer (some a)) :=
  QY.val rfl fun ρ w h _ => by simp [execOp, h x _ (by simp [Op.operands]) hx]

theorem q_fa {s : TypeId} {x : Operand} {f k b off : Nat} (hf : ∀ b off w, (Instr.fieldAt s (.pointer (some ⟨b, off, none⟩)) f).run M.P w = .ok (.pointer (some ⟨b, off + k, none⟩)) w)
    (hx : evalO env x = some (.pointer (some ⟨b, off, none⟩))) : QY M all ⟨dst, .fieldAddr s x f, ty, pos, aft, none⟩ env ctx (.pointer (some ⟨b, off + k, none⟩)) :=
  QY.val rfl fun ρ w h _ => by simp [execOp, h x _ (by simp [Op.operands]) hx, hf, Result.andThen]

theorem q_field {s : TypeId} {x : Operand} {f : Nat} {u v : Value} (hf : ∀ w, (Instr.field s u f).run M.P w = .ok v w)
    (hx : evalO env x = some u) : QY M all ⟨dst, .field s x f, ty, pos, aft, none⟩ env ctx v :=
  QY.val rfl fun ρ w h _ => by simp [execOp, h x _ (by simp [Op.operands]) hx, hf, Result.andThen]

theorem q_extract {x : Operand} {i : Nat} {vs : Array Value} {v : Value} (hx : evalO env x = some (.tuple vs)) (hv : vs[i]? = some v) : QY M all ⟨dst, .extract x i, ty, pos, aft, none⟩ env ctx v :=
  QY.val rfl fun ρ w h _ => by simp [execOp, h x _ (by simp [Op.operands]) hx, Instr.extract, hv, Result.andThen]

theorem q_mkI {t : TypeId} {x : Operand} {v : Value} (hr : ∀ w v, (Instr.makeInterface t v).run M.P w = .ok (.iface t v) w) (hx : evalO env x = some v) : QY M all ⟨dst, .makeInterface t x, ty, pos, aft, none⟩ env ctx (.iface t v) :=
  QY.val rfl fun ρ w h _ => by simp [execOp, h x _ (by simp [Op.operands]) hx, hr, Result.andThen]

theorem q_build {t : TypeId} {ps : List (Nat × Operand)} {us : List Value} {v : Value} (hx : evalOs env (ps.map (·.2)) = some us)
    (hr : ∀ w, (Instr.build t ((ps.map (·.1)).zip us).toArray).run M.P w = .ok v w) : QY M all ⟨dst, .build t ps.toArray, ty, pos, aft, none⟩ env ctx v :=
  QY.val rfl fun ρ w h _ => by
    have key : ∀ (ps : List (Nat × Operand)) (us : List Value), (∀ x u, x ∈ ps.map (·.2) → evalO env x = some u → ρ x = u) → evalOs env (ps.map (·.2)) = some us → ps.map (fun p => (p.1, ρ p.2)) = (ps.map (·.1)).zip us := by
      intro ps
      induction ps with
      | nil => intro us _ hu; simp [evalOs] at hu; subst hu; rfl
      | cons p ps ih =>
        intro us hρ hu
        simp only [List.map_cons, evalOs] at hu
        cases h1 : evalO env p.2 with
        | none => simp [h1] at hu
        | some u1 =>
          cases h2 : evalOs env (ps.map (·.2)) with
          | none => simp [h1, h2] at hu
          | some u2 =>
            simp [h1, h2] at hu
            subst hu
            simp only [List.map_cons, List.zip_cons_cons]
            rw [ih u2 (fun x u hx => hρ x u (List.mem_cons_of_mem _ hx)) h2, hρ p.2 u1 (List.mem_cons_self ..) h1]
    have hm : (ps.toArray.map fun p => (p.1, ρ p.2)) = ((ps.map (·.1)).zip us).toArray := by
      rw [← key ps us (fun x u hx => h x u (by simpa [Op.operands] using hx)) hx]; simp
    have : (execOp ρ ⟨dst, .build t ps.toArray, ty, pos, aft, none⟩) = (do pure (.value (← Instr.build t (ps.toArray.map fun p => (p.1, ρ p.2))))) := rfl
    rw [this, hm]
    simp [hr, Result.andThen]

theorem q_not {t : TypeId} {x : Operand} {b : Bool} (hx : evalO env x = some (.bool b)) : QY M all ⟨dst, .unOp .not t x, ty, pos, aft, none⟩ env ctx (.bool (!b)) :=
  QY.val rfl fun ρ w h _ => by simp [execOp, h x _ (by simp [Op.operands]) hx, Op.unary, Result.andThen]

/-- Operations on two numbers of one kind. -/
theorem q_bin {op : BinOp} {t yt : TypeId} {x y : Operand} {u1 u2 v : Value} (hr : ∀ w, (do eqGuard op t x y u1 u2; binOp op t u1 u2 : Sem Value).run M.P w = .ok v w)
    (hx : evalO env x = some u1) (hy : evalO env y = some u2) : QY M all ⟨dst, .binOp op t x y yt, ty, pos, aft, none⟩ env ctx v :=
  QY.val rfl fun ρ w h _ => by
    have e : execOp ρ ⟨dst, .binOp op t x y yt, ty, pos, aft, none⟩ = (do let r ← (do eqGuard op t x y (ρ x) (ρ y); binOp op t (ρ x) (ρ y) : Sem Value); pure (.value r)) := rfl
    rw [e, h x _ (by simp [Op.operands]) hx, h y _ (by simp [Op.operands]) hy, Sem.run_bind, hr w]
    rfl

theorem eqGuard_int {P : Program} {op : BinOp} {t : TypeId} {x y : Operand} {k k' : IntKind} {a b : Int} {w : World} : (eqGuard op t x y (.int k a) (.int k' b)).run P w = .ok () w := by
  unfold eqGuard
  cases op <;> simp

theorem eqGuard_bool {P : Program} {op : BinOp} {t : TypeId} {x y : Operand} {a b : Bool} {w : World} : (eqGuard op t x y (.bool a) (.bool b)).run P w = .ok () w := by
  unfold eqGuard
  cases op <;> simp

theorem eqGuard_ptr {P : Program} {op : BinOp} {t : TypeId} {x y : Operand} {a b : Option Addr} {w : World} : (eqGuard op t x y (.pointer a) (.pointer b)).run P w = .ok () w := by
  unfold eqGuard
  cases op <;> simp

theorem q_add {t yt : TypeId} {x y : Operand} {k : IntKind} {a b c : Int} (hw : k.wrap (a + b) = c) (hx : evalO env x = some (.int k a)) (hy : evalO env y = some (.int k b)) :
    QY M all ⟨dst, .binOp .add t x y yt, ty, pos, aft, none⟩ env ctx (.int k c) :=
  q_bin (fun w => by simp [eqGuard_int, binOp, Op.intArith, hw, Result.andThen]) hx hy
theorem q_sub {t yt : TypeId} {x y : Operand} {k : IntKind} {a b c : Int} (hw : k.wrap (a - b) = c) (hx : evalO env x = some (.int k a)) (hy : evalO env y = some (.int k b)) :
    QY M all ⟨dst, .binOp .sub t x y yt, ty, pos, aft, none⟩ env ctx (.int k c) :=
  q_bin (fun w => by simp [eqGuard_int, binOp, Op.intArith, hw, Result.andThen]) hx hy
theorem q_mul {t yt : TypeId} {x y : Operand} {k : IntKind} {a b c : Int} (hw : k.wrap (a * b) = c) (hx : evalO env x = some (.int k a)) (hy : evalO env y = some (.int k b)) :
    QY M all ⟨dst, .binOp .mul t x y yt, ty, pos, aft, none⟩ env ctx (.int k c) :=
  q_bin (fun w => by simp [eqGuard_int, binOp, Op.intArith, hw, Result.andThen]) hx hy
theorem q_quo {t yt : TypeId} {x y : Operand} {k : IntKind} {a b c : Int} (h0 : b ≠ 0) (hw : k.wrap (a.tdiv b) = c) (hx : evalO env x = some (.int k a)) (hy : evalO env y = some (.int k b)) :
    QY M all ⟨dst, .binOp .quo t x y yt, ty, pos, aft, none⟩ env ctx (.int k c) :=
  q_bin (fun w => by simp [eqGuard_int, binOp, Op.intDiv, h0, hw, Result.andThen]) hx hy
theorem q_rem {t yt : TypeId} {x y : Operand} {k : IntKind} {a b c : Int} (h0 : b ≠ 0) (hw : a.tmod b = c) (hx : evalO env x = some (.int k a)) (hy : evalO env y = some (.int k b)) :
    QY M all ⟨dst, .binOp .rem t x y yt, ty, pos, aft, none⟩ env ctx (.int k c) :=
  q_bin (fun w => by simp [eqGuard_int, binOp, Op.intDiv, h0, hw, Result.andThen]) hx hy

theorem q_shl {t yt : TypeId} {x y : Operand} {k k' : IntKind} {a b c : Int} (h0 : 0 ≤ b) (hw : k.wrap (a * 2 ^ (min b.toNat k.bits)) = c) (hx : evalO env x = some (.int k a)) (hy : evalO env y = some (.int k' b)) :
    QY M all ⟨dst, .binOp .shl t x y yt, ty, pos, aft, none⟩ env ctx (.int k c) :=
  q_bin (fun w => by
    have : ¬ b < 0 := by omega
    simp [eqGuard_int, binOp, Op.shift, this, hw, Result.andThen]) hx hy
theorem q_shr {t yt : TypeId} {x y : Operand} {k k' : IntKind} {a b c : Int} (h0 : 0 ≤ b) (hw : a.fdiv (2 ^ (min b.toNat k.bits)) = c) (hx : evalO env x = some (.int k a)) (hy : evalO env y = some (.int k' b)) :
    QY M all ⟨dst, .binOp .shr t x y yt, ty, pos, aft, none⟩ env ctx (.int k c) :=
  q_bin (fun w => by
    have : ¬ b < 0 := by omega
    simp [eqGuard_int, binOp, Op.shift, this, hw, Result.andThen]) hx hy
theorem q_andI {t yt : TypeId} {x y : Operand} {k : IntKind} {a b c : Int} (hw : k.wrap ((BitVec.ofInt k.bits a &&& BitVec.ofInt k.bits b).toNat : Nat) = c) (hx : evalO env x = some (.int k a)) (hy : evalO env y = some (.int k b)) :
    QY M all ⟨dst, .binOp .and t x y yt, ty, pos, aft, none⟩ env ctx (.int k c) :=
  q_bin (fun w => by simp only [Sem.run_bind, eqGuard_int, Result.andThen_ok, binOp, ne_eq, not_true, if_false, Op.intBits, Sem.run_pure, hw]) hx hy
theorem q_orI {t yt : TypeId} {x y : Operand} {k : IntKind} {a b c : Int} (hw : k.wrap ((BitVec.ofInt k.bits a ||| BitVec.ofInt k.bits b).toNat : Nat) = c) (hx : evalO env x = some (.int k a)) (hy : evalO env y = some (.int k b)) :
    QY M all ⟨dst, .binOp .or t x y yt, ty, pos, aft, none⟩ env ctx (.int k c) :=
  q_bin (fun w => by simp only [Sem.run_bind, eqGuard_int, Result.andThen_ok, binOp, ne_eq, not_true, if_false, Op.intBits, Sem.run_pure, hw]) hx hy
theorem q_andNot {t yt : TypeId} {x y : Operand} {k : IntKind} {a b c : Int} (hw : k.wrap ((BitVec.ofInt k.bits a &&& ~~~(BitVec.ofInt k.bits b)).toNat : Nat) = c) (hx : evalO env x = some (.int k a)) (hy : evalO env y = some (.int k b)) :
    QY M all ⟨dst, .binOp .andNot t x y yt, ty, pos, aft, none⟩ env ctx (.int k c) :=
  q_bin (fun w => by simp only [Sem.run_bind, eqGuard_int, Result.andThen_ok, binOp, ne_eq, not_true, if_false, Op.intBits, Sem.run_pure, hw]) hx hy

def cmpB : BinOp → Int → Int → Bool
  | .eql, a, b => decide (a = b)
  | .neq, a, b => !decide (a = b)
  | .lss, a, b => decide (a < b)
  | .leq, a, b => decide (a ≤ b)
  | .gtr, a, b => decide (b < a)
  | .geq, a, b => decide (b ≤ a)
  | _, _, _ => false

def isCmp : BinOp → Bool
  | .eql | .neq | .lss | .leq | .gtr | .geq => true
  | _ => false

theorem q_cmp {op : BinOp} {t yt : TypeId} {x y : Operand} {k : IntKind} {a b : Int} {c : Bool} (ho : isCmp op = true) (hc : cmpB op a b = c) (hx : evalO env x = some (.int k a)) (hy : evalO env y = some (.int k b)) :
    QY M all ⟨dst, .binOp op t x y yt, ty, pos, aft, none⟩ env ctx (.bool c) :=
  q_bin (fun w => by
    subst hc
    cases op <;> simp [isCmp] at ho <;> simp [eqGuard_int, binOp, Op.intCmp, cmpB, Result.andThen]
    · rfl
    · rfl) hx hy

theorem q_eql {t yt : TypeId} {x y : Operand} {k : IntKind} {a b : Int} (hx : evalO env x = some (.int k a)) (hy : evalO env y = some (.int k b)) :
    QY M all ⟨dst, .binOp .eql t x y yt, ty, pos, aft, none⟩ env ctx (.bool (decide (a = b))) := q_cmp (op := .eql) rfl rfl hx hy
theorem q_neq {t yt : TypeId} {x y : Operand} {k : IntKind} {a b : Int} (hx : evalO env x = some (.int k a)) (hy : evalO env y = some (.int k b)) :
    QY M all ⟨dst, .binOp .neq t x y yt, ty, pos, aft, none⟩ env ctx (.bool (!decide (a = b))) := q_cmp (op := .neq) rfl rfl hx hy
theorem q_lss {t yt : TypeId} {x y : Operand} {k : IntKind} {a b : Int} (hx : evalO env x = some (.int k a)) (hy : evalO env y = some (.int k b)) :
    QY M all ⟨dst, .binOp .lss t x y yt, ty, pos, aft, none⟩ env ctx (.bool (decide (a < b))) := q_cmp (op := .lss) rfl rfl hx hy
theorem q_leq {t yt : TypeId} {x y : Operand} {k : IntKind} {a b : Int} (hx : evalO env x = some (.int k a)) (hy : evalO env y = some (.int k b)) :
    QY M all ⟨dst, .binOp .leq t x y yt, ty, pos, aft, none⟩ env ctx (.bool (decide (a ≤ b))) := q_cmp (op := .leq) rfl rfl hx hy
theorem q_gtr {t yt : TypeId} {x y : Operand} {k : IntKind} {a b : Int} (hx : evalO env x = some (.int k a)) (hy : evalO env y = some (.int k b)) :
    QY M all ⟨dst, .binOp .gtr t x y yt, ty, pos, aft, none⟩ env ctx (.bool (decide (b < a))) := q_cmp (op := .gtr) rfl rfl hx hy
theorem q_geq {t yt : TypeId} {x y : Operand} {k : IntKind} {a b : Int} (hx : evalO env x = some (.int k a)) (hy : evalO env y = some (.int k b)) :
    QY M all ⟨dst, .binOp .geq t x y yt, ty, pos, aft, none⟩ env ctx (.bool (decide (b ≤ a))) := q_cmp (op := .geq) rfl rfl hx hy

theorem run_equal_bool {P : Program} {t : TypeId} {a b : Bool} {w : World} (hu : ∀ w, (underlying t).run P w = .ok .bool w) : (Op.equal t (.bool a) (.bool b)).run P w = .ok (a == b) w := by
  show (Op.equalIn (9999 + 1) t (.bool a) (.bool b)).run P w = _
  rw [Op.equalIn]
  simp [hu, Result.andThen]

theorem run_equal_nil {P : Program} {t e : TypeId} {a : Option Addr} {w : World} (hu : ∀ w, (underlying t).run P w = .ok (.pointer e) w) : (Op.equal t (.pointer a) (.pointer none)).run P w = .ok a.isNone w := by
  show (Op.equalIn (9999 + 1) t (.pointer a) (.pointer none)).run P w = _
  rw [Op.equalIn]
  cases a <;> simp [hu, Result.andThen]

theorem q_eqb {t yt : TypeId} {x y : Operand} {a b : Bool} (hu : ∀ w, (underlying t).run M.P w = .ok .bool w) (hx : evalO env x = some (.bool a)) (hy : evalO env y = some (.bool b)) :
    QY M all ⟨dst, .binOp .eql t x y yt, ty, pos, aft, none⟩ env ctx (.bool (a == b)) :=
  q_bin (fun w => by simp only [Sem.run_bind, eqGuard_bool, Result.andThen_ok, binOp, run_equal_bool hu, Sem.run_pure]) hx hy
theorem q_neb {t yt : TypeId} {x y : Operand} {a b : Bool} (hu : ∀ w, (underlying t).run M.P w = .ok .bool w) (hx : evalO env x = some (.bool a)) (hy : evalO env y = some (.bool b)) :
    QY M all ⟨dst, .binOp .neq t x y yt, ty, pos, aft, none⟩ env ctx (.bool (!(a == b))) :=
  q_bin (fun w => by simp only [Sem.run_bind, eqGuard_bool, Result.andThen_ok, binOp, run_equal_bool hu, Sem.run_pure]) hx hy

/-- A pointer against nil. -/
theorem q_eqnil {t yt e : TypeId} {x y : Operand} {a : Option Addr} (hu : ∀ w, (underlying t).run M.P w = .ok (.pointer e) w) (hx : evalO env x = some (.pointer a)) (hy : evalO env y = some (.pointer none)) :
    QY M all ⟨dst, .binOp .eql t x y yt, ty, pos, aft, none⟩ env ctx (.bool a.isNone) :=
  q_bin (fun w => by simp only [Sem.run_bind, eqGuard_ptr, Result.andThen_ok, binOp, run_equal_nil hu, Sem.run_pure]) hx hy
theorem q_nenil {t yt e : TypeId} {x y : Operand} {a : Option Addr} (hu : ∀ w, (underlying t).run M.P w = .ok (.pointer e) w) (hx : evalO env x = some (.pointer a)) (hy : evalO env y = some (.pointer none)) :
    QY M all ⟨dst, .binOp .neq t x y yt, ty, pos, aft, none⟩ env ctx (.bool a.isSome) :=
  q_bin (fun w => by simp only [Sem.run_bind, eqGuard_ptr, Result.andThen_ok, binOp, run_equal_nil hu, Sem.run_pure]; cases a <;> rfl) hx hy

theorem q_conv {s d : TypeId} {x : Operand} {k k' : IntKind} {D : TypeDesc} {a c : Int} (h1 : ∀ w, (underlying s).run M.P w = .ok D w) (h2 : ∀ w, (underlying d).run M.P w = .ok (.int k') w) (hw : k'.wrap a = c)
    (hx : evalO env x = some (.int k a)) : QY M all ⟨dst, .convert s d x, ty, pos, aft, none⟩ env ctx (.int k' c) :=
  QY.val rfl fun ρ w h _ => by
    simp [execOp, h x _ (by simp [Op.operands]) hx, convert, h1, h2, Conv.intToInt, hw, Result.andThen]

theorem q_len {t e : TypeId} {x : Operand} {a : Option Addr} {n c : Nat} (hu : ∀ w, (underlying t).run M.P w = .ok (.slice e) w) (hx : evalO env x = some (.slice a n c)) :
    QY M all ⟨dst, .call ⟨.builtin .len, #[x], #[t]⟩, ty, pos, aft, none⟩ env ctx (.int .i64 n) :=
  QY.val rfl fun ρ w h _ => by
    simp [execOp, resolve, invoke, builtin, h x _ (by simp [Op.operands, Call.operands]) hx, Builtin.len_, hu, goInt, Result.andThen]

/-! ### Memory -/

theorem e_alloc {T : TypeId} {z : Value} {cs : Array Value} (hz : ∀ w, (zeroValue T).run M.P w = .ok z w) (hc : z.cells = cs) :
    EY M all ⟨dst, .alloc T, ty, pos, aft, none⟩ env ctx (fun v c => ∃ b, v = .pointer (some ⟨b, 0, none⟩) ∧ c = [(b, .cells cs T (0, 0))] :: ctx) :=
  EY.mk rfl fun ρ w h hi => ⟨.pointer (some ⟨w.heap.size, 0, none⟩), w.alloc (.cells cs T (0, 0)), _, .inl (by
    simp [execOp, Instr.alloc, hz, newVar, newRow, hc, Result.andThen]), hi.alloc _, _, rfl, rfl⟩

theorem e_box {T : TypeId} {x : Operand} {v : Value} {cs : Array Value} (hc : v.cells = cs) (hx : evalO env x = some v) :
    EY M all ⟨dst, .box T x, ty, pos, aft, none⟩ env ctx (fun u c => ∃ b, u = .pointer (some ⟨b, 0, none⟩) ∧ c = [(b, .cells cs T (0, 0))] :: ctx) :=
  EY.mk rfl fun ρ w h hi => ⟨.pointer (some ⟨w.heap.size, 0, none⟩), w.alloc (.cells cs T (0, 0)), _, .inl (by
    simp [execOp, Instr.box, h x _ (by simp [Op.operands]) hx, newVar, newRow, hc, Result.andThen]), hi.alloc _, _, rfl, rfl⟩

theorem Inv.upd_lt {B : World} {own : List Nat} {c c' : Ctx} {w : World} {x y : Atom} (hu : Upd c x y c') (h : Inv B own c w) {b : Nat} {o : Obj} (hm : (b, o) ∈ x) : w.heap[b]? = some o := by
  obtain ⟨r, h1, _⟩ := hu.perm
  exact (h.perm h1).heap b o (by simp only [List.flatten_cons, List.mem_append]; exact .inl hm)

theorem e_store {t : TypeId} {x y : Operand} {b off : Nat} {cs cs' : Array Value} {T : TypeId} {v : Value} {c' : Ctx} (hS : ∀ w, (sizeOf t).run M.P w = .ok 1 w)
    (hx : evalO env x = some (.pointer (some ⟨b, off, none⟩))) (hy : evalO env y = some v) (h1 : v.oneCell' = true) (hu : Upd ctx [(b, .cells cs T (0, 0))] [(b, .cells cs' T (0, 0))] c')
    (hlt : Nat.blt off cs.size = true) (hcs : cs.setIfInBounds off v = cs') : EY M all ⟨dst, .store t x y, ty, pos, aft, none⟩ env ctx (fun u c => u = undef ∧ c = c') :=
  EY.mk rfl fun ρ w h hi => by
    have hb := hi.upd_lt hu (b := b) (List.mem_singleton.2 rfl)
    have hlt' : off < cs.size := Nat.le_of_ble_eq_true hlt
    have hcell : v.cells = #[v] := by cases v <;> simp [Value.oneCell'] at h1 <;> rfl
    obtain ⟨w', r1, r2, r3, r4, r5, r6, r7⟩ := run_storeCells (P := M.P) (b := b) (off := off) [v] 0 w cs hb (by simp; omega) (by simpa using h1)
    refine ⟨undef, w', c', .inr ⟨?_, rfl⟩, hi.upd hu ?_ r3 r4 r5 r6 r7, rfl, rfl⟩
    · simp [execOp, h x _ (by simp [Op.operands]) hx, h y _ (by simp [Op.operands]) hy, Instr.storeAt, Instr.sureAddr, storeVar, hS, hcell, r1, Result.andThen]
    · rw [r2, ← hcs]; rfl

theorem e_storeN {t : TypeId} {x y : Operand} {b off : Nat} {cs cs' : Array Value} {T : TypeId} {vs : List Value} {c' : Ctx} (hS : ∀ w, (sizeOf t).run M.P w = .ok vs.length w)
    (hx : evalO env x = some (.pointer (some ⟨b, off, none⟩))) (hy : evalO env y = some (.agg vs.toArray)) (h1 : vs.all Value.oneCell' = true) (hu : Upd ctx [(b, .cells cs T (0, 0))] [(b, .cells cs' T (0, 0))] c')
    (hlt : Nat.ble (off + vs.length) cs.size = true) (hcs : setAll cs off vs = cs') : EY M all ⟨dst, .store t x y, ty, pos, aft, none⟩ env ctx (fun u c => u = undef ∧ c = c') :=
  EY.mk rfl fun ρ w h hi => by
    have hb := hi.upd_lt hu (b := b) (List.mem_singleton.2 rfl)
    have hlt' : off + vs.length ≤ cs.size := Nat.le_of_ble_eq_true hlt
    obtain ⟨w', r1, r2, r3, r4, r5, r6, r7⟩ := run_storeCells (P := M.P) (b := b) (off := off) vs 0 w cs hb (by simpa using hlt') (by simpa using h1)
    refine ⟨undef, w', c', .inr ⟨?_, rfl⟩, hi.upd hu ?_ r3 r4 r5 r6 r7, rfl, rfl⟩
    · simp [execOp, h x _ (by simp [Op.operands]) hx, h y _ (by simp [Op.operands]) hy, Instr.storeAt, Instr.sureAddr, storeVar, hS, Value.cells, r1, Result.andThen]
    · rw [r2, ← hcs]; rfl
end
end Go.SL
