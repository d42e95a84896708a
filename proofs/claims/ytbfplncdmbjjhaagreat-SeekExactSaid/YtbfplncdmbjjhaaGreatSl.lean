/-
  A small separation logic over the wp of the library: a state is a list of owned blocks and a list of slots.
-/
import Derived.Tactics
import Derived.Orders
import Derived.Scope
import Derived.Deep.Quiet
import Derived.Laws.Cells
set_option linter.unusedSimpArgs false
set_option linter.unusedVariables false
namespace Go.SL

abbrev Atom := List (Nat × Obj)
abbrev Ctx := List Atom
def dom (c : Ctx) : List Nat := c.flatten.map (·.1)

structure Inv (B : World) (own : List Nat) (c : Ctx) (w : World) : Prop where
  heap : ∀ b o, (b, o) ∈ c.flatten → w.heap[b]? = some o
  nd : (dom c).Nodup
  fresh : ∀ b, b ∈ dom c → b ∈ own ∨ B.heap.size ≤ b
  kept : ∀ b, b < B.heap.size → b ∉ own → w.heap[b]? = B.heap[b]?
  size : B.heap.size ≤ w.heap.size
  tape : w.tape = B.tape
  os : w.os = B.os
  output : w.output = B.output

abbrev Env := List (Nat × Value)
def look : Env → Nat → Option Value
  | [], _ => none
  | (k, v) :: r, t => match Nat.beq k t with
    | true => some v
    | false => look r t

structure Rep (n : Nat) (env : Env) (a : Act) : Prop where
  df : a.defers = []
  sz : a.tmps.size = n
  ag : ∀ t v, look env t = some v → a.tmps[t]? = some v

structure RepOn (n : Nat) (T : List Tmp) (env : Env) (a : Act) : Prop where
  df : a.defers = []
  sz : a.tmps.size = n
  ag : ∀ t v, t ∈ T → look env t = some v → a.tmps[t]? = some v

theorem Rep.on {n : Nat} {env : Env} {a : Act} (h : Rep n env a) (T : List Tmp) : RepOn n T env a := ⟨h.df, h.sz, fun t v _ hv => h.ag t v hv⟩

def evalO (env : Env) : Operand → Option Value
  | .tmp t => look env t
  | .const v => some v
  | .global g => some (.pointer (some ⟨g, 0, none⟩))
  | .func f => some (.func (.func f) #[] #[])

def evalOs (env : Env) : List Operand → Option (List Value)
  | [] => some []
  | x :: r => match evalO env x with
    | some v => match evalOs env r with
      | some vs => some (v :: vs)
      | none => none
    | none => none

structure Mach where
  P : Program
  B : World
  own : List Nat
  n : Nat

def lift (M : Mach) (Q : Exit → Env → Ctx → Prop) : Exit → Act → World → Prop :=
  fun e a w => ∃ env ctx, Rep M.n env a ∧ Inv M.B M.own ctx w ∧ Q e env ctx

def W (M : Mach) (c : Code) (Q : Exit → Env → Ctx → Prop) (env : Env) (ctx : Ctx) : Prop :=
  ∀ a w, Rep M.n env a → Inv M.B M.own ctx w → c.wp M.P (lift M Q) a w

def thenE (K : Env → Ctx → Prop) (Q : Exit → Env → Ctx → Prop) : Exit → Env → Ctx → Prop
  | .normal, e, c => K e c
  | x, e, c => Q x e c

def blockE (id : Nat) (Q : Exit → Env → Ctx → Prop) : Exit → Env → Ctx → Prop
  | .exit i, e, c => if i = id then Q .normal e c else Q (.exit i) e c
  | x, e, c => Q x e c

section
variable {M : Mach} {Q Q' : Exit → Env → Ctx → Prop} {env : Env} {ctx : Ctx}

theorem lift_mono (h : ∀ e env ctx, Q e env ctx → Q' e env ctx) : ∀ e a w, lift M Q e a w → lift M Q' e a w :=
  fun e _ _ ⟨env, ctx, h1, h2, h3⟩ => ⟨env, ctx, h1, h2, h e env ctx h3⟩

theorem W_mono {c : Code} (hq : ∀ e env ctx, Q e env ctx → Q' e env ctx) (h : W M c Q env ctx) : W M c Q' env ctx :=
  fun a w hr hi => wp_mono (h a w hr hi) (lift_mono hq)

theorem W_seq {x y : Code} (h : W M x (thenE (W M y Q) Q) env ctx) : W M (.seq x y) Q env ctx := by
  intro a w hr hi
  refine wp_seq (wp_mono (h a w hr hi) ?_)
  rintro e a w ⟨env, ctx, h1, h2, h3⟩
  cases e with
  | normal => exact h3 a w h1 h2
  | exit id => exact ⟨env, ctx, h1, h2, h3⟩
  | goto l => exact ⟨env, ctx, h1, h2, h3⟩
  | ret => exact ⟨env, ctx, h1, h2, h3⟩
  | panic c => exact ⟨env, ctx, h1, h2, h3⟩
  | outgrown => exact ⟨env, ctx, h1, h2, h3⟩

theorem W_block {id : Nat} {c : Code} (h : W M c (blockE id Q) env ctx) : W M (.block id c) Q env ctx := by
  intro a w hr hi
  refine wp_block (wp_mono (h a w hr hi) ?_)
  rintro e a w ⟨env, ctx, h1, h2, h3⟩
  cases e with
  | exit i =>
    simp only [blockE] at h3
    simp only [Exit.inBlock]
    split
    · rename_i he; rw [if_pos he] at h3; exact ⟨env, ctx, h1, h2, h3⟩
    · rename_i he; rw [if_neg he] at h3; exact ⟨env, ctx, h1, h2, h3⟩
  | normal => exact ⟨env, ctx, h1, h2, h3⟩
  | goto l => exact ⟨env, ctx, h1, h2, h3⟩
  | ret => exact ⟨env, ctx, h1, h2, h3⟩
  | panic c => exact ⟨env, ctx, h1, h2, h3⟩
  | outgrown => exact ⟨env, ctx, h1, h2, h3⟩

theorem W_skip (h : Q .normal env ctx) : W M .skip Q env ctx := fun _ _ hr hi => wp_skip ⟨env, ctx, hr, hi, h⟩
theorem W_label {l : Nat} (h : Q .normal env ctx) : W M (.label l) Q env ctx := fun _ _ hr hi => wp_label ⟨env, ctx, hr, hi, h⟩
theorem W_exit {id : Nat} (h : Q (.exit id) env ctx) : W M (.exit id) Q env ctx := fun _ _ hr hi => wp_exit ⟨env, ctx, hr, hi, h⟩
theorem W_ret (h : Q .ret env ctx) : W M .ret Q env ctx := fun _ _ hr hi => wp_ret ⟨env, ctx, hr, hi, h⟩

theorem eval_of {n : Nat} {T : List Tmp} {env : Env} {a : Act} (h : RepOn n T env a) {x : Operand} {v : Value} (hx : evalO env x = some v)
    (hT : ∀ t, x = .tmp t → t ∈ T) : a.eval x = v := by
  cases x with
  | tmp t =>
    have := h.ag t v (hT t rfl) hx
    simp [Act.eval, this]
  | const u => simpa [evalO, Act.eval] using hx
  | global g => simpa [evalO, Act.eval] using hx
  | func f => simpa [evalO, Act.eval] using hx

theorem W_cond {c : Operand} {x y : Code} {t : Bool} (hc : evalO env c = some (.bool t)) (h1 : t = true → W M x Q env ctx) (h2 : t = false → W M y Q env ctx) :
    W M (.cond c x y) Q env ctx := by
  intro a w hr hi
  have he : a.eval c = .bool t := eval_of (hr.on (match c with | .tmp t => [t] | _ => [])) hc (fun t ht => by subst ht; simp)
  exact wp_cond_split he (fun ht => h1 ht a w hr hi) (fun ht => h2 ht a w hr hi)

theorem W_true {c : Operand} {x y : Code} (hc : evalO env c = some (.bool true)) (h1 : W M x Q env ctx) : W M (.cond c x y) Q env ctx :=
  W_cond hc (fun _ => h1) (fun h => by cases h)
theorem W_false {c : Operand} {x y : Code} (hc : evalO env c = some (.bool false)) (h2 : W M y Q env ctx) : W M (.cond c x y) Q env ctx :=
  W_cond hc (fun h => by cases h) (fun _ => h2)

theorem W_tr {c : Operand} {x y : Code} {t : Bool} (hc : evalO env c = some (.bool t)) (ht : t = true) (h1 : W M x Q env ctx) : W M (.cond c x y) Q env ctx := by subst ht; exact W_true hc h1
theorem W_fa {c : Operand} {x y : Code} {t : Bool} (hc : evalO env c = some (.bool t)) (ht : t = false) (h2 : W M y Q env ctx) : W M (.cond c x y) Q env ctx := by subst ht; exact W_false hc h2

theorem W_loop {c : Code} (I : Env → Ctx → Nat → Prop) (m0 : Nat) (h0 : I env ctx m0)
    (hr : ∀ m env ctx, I env ctx m → W M c (thenE (fun env' ctx' => ∃ m', m' < m ∧ I env' ctx' m') Q) env ctx) : W M (.loop c) Q env ctx := by
  intro a w hrep hinv b k cs
  have key : ∀ m a w env ctx, I env ctx m → Rep M.n env a → Inv M.B M.own ctx w →
      ∃ e a' w', lift M Q e a' w' ∧ Arrives M.P (lone (b.at a (.code c :: .inLoop c :: k)) cs w) b k cs e a' w' := by
    intro m
    induction m using Nat.strongRecOn with
    | _ m ih =>
      intro a w env ctx hI h1 h2
      obtain ⟨e, a₁, w₁, ⟨env₁, ctx₁, g1, g2, g3⟩, harr⟩ := hr m env ctx hI a w h1 h2 b (.inLoop c :: k) cs
      cases e with
      | normal =>
        obtain ⟨m', hlt, hI'⟩ := g3
        obtain ⟨e₂, a₂, w₂, hq₂, harr₂⟩ := ih m' hlt a₁ w₁ env₁ ctx₁ hI' g1 g2
        exact ⟨e₂, a₂, w₂, hq₂, .of_steps (Steps.trans harr (.one step_inLoop)) harr₂⟩
      | exit id => exact ⟨_, a₁, w₁, ⟨env₁, ctx₁, g1, g2, g3⟩, .pass (x := .inLoop c) rfl (fun _ _ => .inl (by simp)) harr⟩
      | goto l => exact ⟨_, a₁, w₁, ⟨env₁, ctx₁, g1, g2, g3⟩, .pass (x := .inLoop c) rfl (fun _ _ => .inl (by simp)) harr⟩
      | ret => exact ⟨_, a₁, w₁, ⟨env₁, ctx₁, g1, g2, g3⟩, .pass (x := .inLoop c) rfl (fun _ _ => .inl (by simp)) harr⟩
      | panic ch => exact ⟨_, a₁, w₁, ⟨env₁, ctx₁, g1, g2, g3⟩, .pass (x := .inLoop c) rfl (fun _ _ => .inl (by simp)) harr⟩
      | outgrown => exact ⟨_, a₁, w₁, ⟨env₁, ctx₁, g1, g2, g3⟩, .pass (x := .inLoop c) rfl (fun _ _ => .inl (by simp)) harr⟩
  obtain ⟨e, a', w', hq, harr⟩ := key m0 a w env ctx h0 hrep hinv
  exact ⟨e, a', w', hq, .of_steps (.one step_loop) harr⟩
end

/-- One more round of a loop. -/
def L (M : Mach) (c : Code) (Q : Exit → Env → Ctx → Prop) (env : Env) (ctx : Ctx) : Prop :=
  ∀ a w, Rep M.n env a → Inv M.B M.own ctx w → ∀ (b : Frame) (k : List Item) (cs : List Frame),
    ∃ e a' w', lift M Q e a' w' ∧ Arrives M.P (lone (b.at a (.inLoop c :: k)) cs w) b k cs e a' w'

theorem loop_round {M : Mach} {c : Code} {Q : Exit → Env → Ctx → Prop} {env : Env} {ctx : Ctx} (h : W M c (thenE (L M c Q) Q) env ctx) {a : Act} {w : World} (hrep : Rep M.n env a) (hinv : Inv M.B M.own ctx w) (b : Frame) (k : List Item) (cs : List Frame) :
    ∃ e a' w', lift M Q e a' w' ∧ Arrives M.P (lone (b.at a (.code c :: .inLoop c :: k)) cs w) b k cs e a' w' := by
  obtain ⟨e, a₁, w₁, ⟨env₁, ctx₁, g1, g2, g3⟩, harr⟩ := h a w hrep hinv b (.inLoop c :: k) cs
  cases e with
  | normal =>
    obtain ⟨e₂, a₂, w₂, hq₂, harr₂⟩ := g3 a₁ w₁ g1 g2 b k cs
    exact ⟨e₂, a₂, w₂, hq₂, .of_steps harr harr₂⟩
  | exit id => exact ⟨_, a₁, w₁, ⟨env₁, ctx₁, g1, g2, g3⟩, .pass (x := .inLoop c) rfl (fun _ _ => .inl (by simp)) harr⟩
  | goto l => exact ⟨_, a₁, w₁, ⟨env₁, ctx₁, g1, g2, g3⟩, .pass (x := .inLoop c) rfl (fun _ _ => .inl (by simp)) harr⟩
  | ret => exact ⟨_, a₁, w₁, ⟨env₁, ctx₁, g1, g2, g3⟩, .pass (x := .inLoop c) rfl (fun _ _ => .inl (by simp)) harr⟩
  | panic ch => exact ⟨_, a₁, w₁, ⟨env₁, ctx₁, g1, g2, g3⟩, .pass (x := .inLoop c) rfl (fun _ _ => .inl (by simp)) harr⟩
  | outgrown => exact ⟨_, a₁, w₁, ⟨env₁, ctx₁, g1, g2, g3⟩, .pass (x := .inLoop c) rfl (fun _ _ => .inl (by simp)) harr⟩

theorem L_unroll {M : Mach} {c : Code} {Q : Exit → Env → Ctx → Prop} {env : Env} {ctx : Ctx} (h : W M c (thenE (L M c Q) Q) env ctx) : L M c Q env ctx := by
  intro a w hrep hinv b k cs
  obtain ⟨e, a', w', hq, harr⟩ := loop_round h hrep hinv b k cs
  exact ⟨e, a', w', hq, .of_steps (.one step_inLoop) harr⟩

theorem W_unroll {M : Mach} {c : Code} {Q : Exit → Env → Ctx → Prop} {env : Env} {ctx : Ctx} (h : W M c (thenE (L M c Q) Q) env ctx) : W M (.loop c) Q env ctx := by
  intro a w hrep hinv b k cs
  obtain ⟨e, a', w', hq, harr⟩ := loop_round h hrep hinv b k cs
  exact ⟨e, a', w', hq, .of_steps (.one step_loop) harr⟩

/-! ## Weakening -/

inductive Take : Ctx → Atom → Ctx → Prop where
  | here {x : Atom} {r : Ctx} : Take (x :: r) x r
  | there {x y : Atom} {r r' : Ctx} : Take r x r' → Take (y :: r) x (y :: r')

inductive Pick : Ctx → Ctx → Ctx → Prop where
  | nil {c : Ctx} : Pick [] c c
  | cons {x : Atom} {xs c c' r : Ctx} : Take c x c' → Pick xs c' r → Pick (x :: xs) c r

theorem Take.perm {c : Ctx} {x : Atom} {r : Ctx} (h : Take c x r) : List.Perm c (x :: r) := by
  induction h with
  | here => exact .refl _
  | there _ ih => exact (List.Perm.cons _ ih).trans (List.Perm.swap _ _ _)

theorem Pick.perm {p c r : Ctx} (h : Pick p c r) : List.Perm c (p ++ r) := by
  induction h with
  | nil => exact .refl _
  | cons ht _ ih => exact ht.perm.trans (List.Perm.cons _ ih)

theorem Inv.perm {B : World} {own : List Nat} {c c' : Ctx} {w : World} (hp : List.Perm c c') (h : Inv B own c w) : Inv B own c' w := by
  have hf : List.Perm c.flatten c'.flatten := hp.flatten
  have hd : List.Perm (dom c) (dom c') := hf.map _
  exact ⟨fun b o hm => h.heap b o (hf.symm.subset hm), hd.nodup_iff.1 h.nd, fun b hb => h.fresh b (hd.symm.subset hb), h.kept, h.size, h.tape, h.os, h.output⟩

theorem dom_append (a b : Ctx) : dom (a ++ b) = dom a ++ dom b := by simp [dom]
theorem dom_cons (x : Atom) (b : Ctx) : dom (x :: b) = x.map (·.1) ++ dom b := by simp [dom]

theorem Inv.left {B : World} {own : List Nat} {c r : Ctx} {w : World} (h : Inv B own (c ++ r) w) : Inv B own c w := by
  have hn := h.nd
  rw [dom_append] at hn
  exact ⟨fun b o hm => h.heap b o (by simp only [List.flatten_append]; exact List.mem_append_left _ hm), (List.nodup_append.1 hn).1,
    fun b hb => h.fresh b (by rw [dom_append]; exact List.mem_append_left _ hb), h.kept, h.size, h.tape, h.os, h.output⟩

theorem Inv.pick {B : World} {own : List Nat} {p c r : Ctx} {w : World} (hp : Pick p c r) (h : Inv B own c w) : Inv B own p w := (h.perm hp.perm).left

/-- Same blocks, other atoms. -/
theorem Inv.conv {B : World} {own : List Nat} {c c' : Ctx} {w : World} (hc : c.flatten = c'.flatten) (h : Inv B own c w) : Inv B own c' w := by
  have hd : dom c = dom c' := by simp [dom, hc]
  exact ⟨fun b o hm => h.heap b o (by rw [hc]; exact hm), hd ▸ h.nd, fun b hb => h.fresh b (hd ▸ hb), h.kept, h.size, h.tape, h.os, h.output⟩

def Sub (env' env : Env) : Prop := ∀ t v, look env' t = some v → look env t = some v

theorem Rep.sub {n : Nat} {env env' : Env} {a : Act} (hs : Sub env' env) (h : Rep n env a) : Rep n env' a := ⟨h.df, h.sz, fun t v hv => h.ag t v (hs t v hv)⟩

theorem W_weak {M : Mach} {c : Code} {Q : Exit → Env → Ctx → Prop} {env env' : Env} {ctx ctx' r : Ctx} (hs : Sub env' env) (hp : Pick ctx' ctx r) (h : W M c Q env' ctx') : W M c Q env ctx :=
  fun a w hr hi => h a w (hr.sub hs) (hi.pick hp)

theorem W_conv {M : Mach} {c : Code} {Q : Exit → Env → Ctx → Prop} {env : Env} {ctx ctx' : Ctx} (hc : ctx.flatten = ctx'.flatten) (h : W M c Q env ctx') : W M c Q env ctx :=
  fun a w hr hi => h a w hr (hi.conv hc)

/-! ## Operations -/

/-- Old blocks read as before, the streams too. -/
structure Same (w w' : World) : Prop where
  heap : ∀ b, b < w.heap.size → w'.heap[b]? = w.heap[b]?
  size : w.heap.size ≤ w'.heap.size
  tape : w'.tape = w.tape
  os : w'.os = w.os
  output : w'.output = w.output

theorem Same.refl (w : World) : Same w w := ⟨fun _ _ => rfl, Nat.le_refl _, rfl, rfl, rfl⟩

theorem Inv.lt {B : World} {own : List Nat} {c : Ctx} {w : World} (h : Inv B own c w) {b : Nat} {o : Obj} (hm : (b, o) ∈ c.flatten) : b < w.heap.size := by
  have := h.heap b o hm
  exact (Array.getElem?_eq_some_iff.1 this).1

theorem Inv.same {B : World} {own : List Nat} {c : Ctx} {w w' : World} (h : Inv B own c w) (hs : Same w w') : Inv B own c w' :=
  ⟨fun b o hm => (hs.heap b (h.lt hm)).trans (h.heap b o hm), h.nd, h.fresh,
   fun b hb ho => (hs.heap b (Nat.lt_of_lt_of_le hb h.size)).trans (h.kept b hb ho), Nat.le_trans h.size hs.size, hs.tape.trans h.tape, hs.os.trans h.os, hs.output.trans h.output⟩

def putE (dst : Option Tmp) (v : Value) (env : Env) : Env :=
  match dst with
  | some d => (d, v) :: env
  | none => env

def dstB (n : Nat) (o : Oper) : Bool :=
  match o.dst with
  | some d => Nat.blt d n
  | none => true

theorem look_cons (k : Nat) (v : Value) (env : Env) (t : Nat) : look ((k, v) :: env) t = if k = t then some v else look env t := by
  simp only [look]
  cases h : Nat.beq k t with
  | true => have := Nat.eq_of_beq_eq_true h; simp [this]
  | false => have := Nat.ne_of_beq_eq_false h; simp [this]

theorem Rep.put {n : Nat} {env : Env} {a : Act} {dst : Option Tmp} {v : Value} (hd : ∀ d, dst = some d → d < n) (h : Rep n env a) : Rep n (putE dst v env) (a.put dst v) := by
  cases dst with
  | none => exact h
  | some d =>
    refine ⟨h.df, by simp [Act.put, h.sz], fun t u ht => ?_⟩
    simp only [putE, look_cons] at ht
    have hdn := hd d rfl
    by_cases e : d = t
    · subst e
      simp only [if_true, Option.some.injEq] at ht
      subst ht
      simp [Act.put, h.sz, hdn]
    · rw [if_neg e] at ht
      simp only [Act.put]
      rw [Array.getElem?_setIfInBounds_ne e]
      exact h.ag t u ht

theorem dstB_lt {n : Nat} {o : Oper} (h : dstB n o = true) : ∀ d, o.dst = some d → d < n := by
  intro d hd
  simp only [dstB, hd] at h
  exact Nat.lt_of_lt_of_le (Nat.lt_succ_self _) (Nat.le_of_ble_eq_true h)

def QY (M : Mach) (all : Array Oper) (o : Oper) (env : Env) (ctx : Ctx) (v : Value) : Prop :=
  ∀ a w, RepOn M.n (o.looksAt all) env a → Inv M.B M.own ctx w →
    (Region.wanted o (yielded all a.tmps) = true ∧ o.quietAt M.P a (Same w) w v) ∨ (Region.wanted o (yielded all a.tmps) = false ∧ v = undef)

def noQ : Exit → Act → World → Prop := fun _ _ _ => False

def EY (M : Mach) (all : Array Oper) (o : Oper) (env : Env) (ctx : Ctx) (R : Value → Ctx → Prop) : Prop :=
  ∀ a w, RepOn M.n (o.looksAt all) env a → Inv M.B M.own ctx w →
    Region.wanted o (yielded all a.tmps) = true ∧ o.wp M.P a w (fun a' w' => ∃ v ctx', a' = a.put o.dst v ∧ Inv M.B M.own ctx' w' ∧ R v ctx') noQ

def normE (K : Env → Ctx → Prop) : Exit → Env → Ctx → Prop
  | .normal, e, c => K e c
  | _, _, _ => False

/-- The operations l, in this order. -/
def O (M : Mach) (all : Array Oper) (l : List Oper) (K : Env → Ctx → Prop) (env : Env) (ctx : Ctx) : Prop :=
  l.all (dstB M.n) = true → ∀ a w, Rep M.n env a → Inv M.B M.own ctx w → wpList M.P all (lift M (normE K)) l a w

theorem Oper.wp_mono2 {P : Program} {o : Oper} {a : Act} {w : World} {K K' : Act → World → Prop} {Q' : Exit → Act → World → Prop} (h : ∀ a w, K a w → K' a w)
    (hh : o.wp P a w K noQ) : o.wp P a w K' Q' := by
  unfold Oper.wp at *
  generalize (execOp a.eval o).run P w = r at *
  cases r with
  | ok n w' =>
    cases n <;> simp only [Oper.upon] at hh ⊢ <;>
      first
        | exact h _ _ hh
        | exact Calls.mono hh (fun e w'' he => by
            cases e with
            | returned v => exact h _ _ he
            | panicked c => exact he.elim
            | outgrown => obtain ⟨_, _, hf⟩ := he; exact hf.elim)
        | exact Rows.mono hh (fun _ _ he => h _ _ he)
  | halt x w' => cases x <;> simp only [Oper.upon] at hh ⊢ <;> exact hh.elim

section
variable {M : Mach} {all : Array Oper} {l : List Oper} {o : Oper} {K : Env → Ctx → Prop} {env : Env} {ctx : Ctx} {v : Value}

theorem O_nil (h : K env ctx) : O M all [] K env ctx := fun _ _ _ hr hi => ⟨env, ctx, hr, hi, h⟩

theorem quiet_wp {P : Program} {a : Act} {w : World} {K' : Act → World → Prop} (hq : o.quietAt P a (Same w) w v) (h : ∀ w', Same w w' → K' (a.put o.dst v) w') : o.wp P a w K' noQ := by
  unfold Oper.quietAt at hq
  unfold Oper.wp
  generalize (execOp a.eval o).run P w = r at *
  cases r with
  | ok n w' =>
    cases n <;> simp only [Oper.quietUpon] at hq <;> simp only [Oper.upon]
    case value u => obtain ⟨rfl, rfl⟩ := hq; exact h _ (Same.refl _)
    case skip => obtain ⟨rfl, rfl⟩ := hq; exact h _ (Same.refl _)
    case enter f args =>
      obtain ⟨rfl, hc⟩ := hq
      exact hc.mono fun e w'' ⟨he, hw''⟩ => by subst he; exact h _ hw''
  | halt x w' => simp only [Oper.quietUpon] at hq

theorem O_q (h : QY M all o env ctx v) (k : O M all l K (putE o.dst v env) ctx) : O M all (o :: l) K env ctx := by
  intro hd a w hr hi
  simp only [List.all_cons, Bool.and_eq_true] at hd
  have hrep : Rep M.n (putE o.dst v env) (a.put o.dst v) := hr.put (dstB_lt hd.1)
  rcases h a w (hr.on _) hi with ⟨hw, hq⟩ | ⟨hw, rfl⟩
  · unfold wpList
    rw [if_pos hw]
    exact .inl (Oper.wp_mono2 (fun _ _ h => h) (quiet_wp hq fun w' hs => k hd.2 _ _ hrep (hi.same hs)))
  · unfold wpList
    rw [if_neg (by simp [hw])]
    exact k hd.2 _ _ hrep hi

theorem O_e {R : Value → Ctx → Prop} (h : EY M all o env ctx R) (k : ∀ v ctx', R v ctx' → O M all l K (putE o.dst v env) ctx') : O M all (o :: l) K env ctx := by
  intro hd a w hr hi
  simp only [List.all_cons, Bool.and_eq_true] at hd
  obtain ⟨hw, hq⟩ := h a w (hr.on _) hi
  unfold wpList
  rw [if_pos hw]
  refine .inl (Oper.wp_mono2 ?_ hq)
  rintro a' w' ⟨v, ctx', rfl, hinv, hR⟩
  exact k v ctx' hR hd.2 _ _ (hr.put (dstB_lt hd.1)) hinv

section
variable {d : Tmp} {op : Op} {ty : TypeId} {pos : String} {aft : Array Edge} {g : Option (Nat × Bool)}
theorem O_qs (h : QY M all ⟨some d, op, ty, pos, aft, g⟩ env ctx v) (k : O M all l K ((d, v) :: env) ctx) : O M all (⟨some d, op, ty, pos, aft, g⟩ :: l) K env ctx := O_q h k
theorem O_qn (h : QY M all ⟨none, op, ty, pos, aft, g⟩ env ctx v) (k : O M all l K env ctx) : O M all (⟨none, op, ty, pos, aft, g⟩ :: l) K env ctx := O_q h k
theorem O_es {R : Value → Ctx → Prop} (h : EY M all ⟨some d, op, ty, pos, aft, g⟩ env ctx R) (k : ∀ v ctx', R v ctx' → O M all l K ((d, v) :: env) ctx') : O M all (⟨some d, op, ty, pos, aft, g⟩ :: l) K env ctx := O_e h k
theorem O_en {R : Value → Ctx → Prop} (h : EY M all ⟨none, op, ty, pos, aft, g⟩ env ctx R) (k : ∀ v ctx', R v ctx' → O M all l K env ctx') : O M all (⟨none, op, ty, pos, aft, g⟩ :: l) K env ctx := O_e h k
end

theorem W_reg {id : Nat} {l : List Oper} {Q : Exit → Env → Ctx → Prop} (hd : l.all (dstB M.n) = true) (h : O M l.toArray l (Q .normal) env ctx) : W M (.region id l.toArray false) Q env ctx := by
  intro a w hr hi
  refine wp_mono (wp_region_lit (h hd a w hr hi)) (lift_mono ?_)
  intro e env ctx hq
  cases e <;> first | exact hq | exact hq.elim
end

/-! ## Calls -/

def Ctr (P : Program) (f : FuncId) (args : List Value) (B : World) (pre : Ctx) (Q : Value → Ctx → Prop) : Prop :=
  Inv B (dom pre) pre B → Calls P f args.toArray B fun e w' => ∃ v post, e = .returned v ∧ Inv B (dom pre) post w' ∧ Q v post

theorem Ctr.mono {P : Program} {f : FuncId} {args : List Value} {B : World} {pre : Ctx} {Q Q' : Value → Ctx → Prop} (h : Ctr P f args B pre Q) (hq : ∀ v c, Q v c → Q' v c) : Ctr P f args B pre Q' :=
  fun hi => (h hi).mono fun _ _ ⟨v, post, he, hinv, hQ⟩ => ⟨v, post, he, hinv, hq _ _ hQ⟩

theorem Ctr.conv {P : Program} {f : FuncId} {args : List Value} {B : World} {pre pre' : Ctx} {Q : Value → Ctx → Prop} (hc : pre.flatten = pre'.flatten) (h : Ctr P f args B pre' Q) : Ctr P f args B pre Q := by
  have hd : dom pre = dom pre' := by simp [dom, hc]
  intro hi
  rw [hd] at hi ⊢
  exact h (hi.conv hc)

/-- A contract in the middle of another state. -/
theorem Ctr.framed {P : Program} {f : FuncId} {args : List Value} {B w : World} {own : List Nat} {ctx pre r : Ctx} {Q : Value → Ctx → Prop}
    (hp : Pick pre ctx r) (h : Ctr P f args w pre Q) (hi : Inv B own ctx w) :
    Calls P f args.toArray w fun e w' => ∃ v post, e = .returned v ∧ Inv B own (post ++ r) w' ∧ Q v post := by
  have hi' := hi.perm hp.perm
  have hn := hi'.nd
  rw [dom_append] at hn
  obtain ⟨hn1, hn2, hn3⟩ := List.nodup_append.1 hn
  have hfr : ∀ b, b ∈ dom pre → b ∈ own ∨ B.heap.size ≤ b := fun b hb => hi'.fresh b (by rw [dom_append]; exact List.mem_append_left _ hb)
  have hw : Inv w (dom pre) pre w := ⟨fun b o hm => hi'.heap b o (by simp only [List.flatten_append]; exact List.mem_append_left _ hm), hn1, fun b hb => .inl hb, fun _ _ _ => rfl, Nat.le_refl _, rfl, rfl, rfl⟩
  refine (h hw).mono ?_
  rintro e w' ⟨v, post, he, hv, hQ⟩
  have hrlt : ∀ b o, (b, o) ∈ r.flatten → b < w.heap.size := fun b o hm => hi'.lt (b := b) (o := o) (by simp only [List.flatten_append]; exact List.mem_append_right _ hm)
  have hrlt' : ∀ b, b ∈ dom r → b < w.heap.size := by
    intro b hb
    obtain ⟨⟨b', o⟩, hm, rfl⟩ := List.mem_map.1 hb
    exact hrlt _ _ hm
  have hnot : ∀ b, b ∈ dom r → b ∉ dom pre := fun b hb hb' => hn3 b hb' b hb rfl
  refine ⟨v, post, he, ⟨?_, ?_, ?_, ?_, ?_, hv.tape.trans hi.tape, hv.os.trans hi.os, hv.output.trans hi.output⟩, hQ⟩
  · intro b o hm
    simp only [List.flatten_append, List.mem_append] at hm
    rcases hm with hm | hm
    · exact hv.heap b o hm
    · rw [hv.kept b (hrlt b o hm) (hnot b (List.mem_map.2 ⟨_, hm, rfl⟩))]
      exact hi'.heap b o (by simp only [List.flatten_append]; exact List.mem_append_right _ hm)
  · rw [dom_append]
    refine List.nodup_append.2 ⟨hv.nd, hn2, fun a ha b hb hab => ?_⟩
    subst hab
    rcases hv.fresh a ha with h1 | h1
    · exact hnot a hb h1
    · have := hrlt' a hb; omega
  · intro b hb
    rw [dom_append, List.mem_append] at hb
    rcases hb with hb | hb
    · rcases hv.fresh b hb with h1 | h1
      · exact hfr b h1
      · exact .inr (Nat.le_trans hi.size h1)
    · exact hi'.fresh b (by rw [dom_append]; exact List.mem_append_right _ hb)
  · intro b hb ho
    have hb' : b ∉ dom pre := fun hm => by
      rcases hfr b hm with h1 | h1
      · exact ho h1
      · omega
    rw [hv.kept b (Nat.lt_of_lt_of_le hb hi.size) hb', hi.kept b hb ho]
  · exact Nat.le_trans hi.size hv.size

/-- A contract that leaves all as it was. -/
theorem Ctr.still {P : Program} {f : FuncId} {args : List Value} {B w : World} {own : List Nat} {ctx pre r : Ctx} {v : Value}
    (hp : Pick pre ctx r) (h : Ctr P f args w pre (fun u c => u = v ∧ c = pre)) (hi : Inv B own ctx w) :
    Calls P f args.toArray w fun e w' => e = .returned v ∧ Same w w' := by
  have hi' := hi.perm hp.perm
  have hn := hi'.nd
  rw [dom_append] at hn
  obtain ⟨hn1, _, _⟩ := List.nodup_append.1 hn
  have hw : Inv w (dom pre) pre w := ⟨fun b o hm => hi'.heap b o (by simp only [List.flatten_append]; exact List.mem_append_left _ hm), hn1, fun b hb => .inl hb, fun _ _ _ => rfl, Nat.le_refl _, rfl, rfl, rfl⟩
  refine (h hw).mono ?_
  rintro e w' ⟨u, post, rfl, hv, rfl, hpo⟩
  rw [hpo] at hv
  refine ⟨rfl, ⟨fun b hb => ?_, hv.size, hv.tape, hv.os, hv.output⟩⟩
  by_cases hm : b ∈ dom pre
  · obtain ⟨⟨b', o⟩, hm', rfl⟩ := List.mem_map.1 hm
    rw [hv.heap _ _ hm', hw.heap _ _ hm']
  · exact hv.kept b hb hm

theorem mem_look {all : Array Oper} {o : Oper} {t : Tmp} (h : Operand.tmp t ∈ o.op.operands.toList) : t ∈ o.looksAt all :=
  List.mem_append_left _ (List.mem_filterMap.2 ⟨.tmp t, h, rfl⟩)

section
variable {M : Mach} {all : Array Oper} {o : Oper} {env : Env} {ctx : Ctx} {v : Value}

/-- An operation that yields a value in every fitting world and leaves the world alone. -/
theorem QY.val (hg : o.guard = none)
    (h : ∀ (ρ : Operand → Value) w, (∀ x u, x ∈ o.op.operands.toList → evalO env x = some u → ρ x = u) → Inv M.B M.own ctx w → (execOp ρ o).run M.P w = .ok (.value v) w) : QY M all o env ctx v := by
  intro a w hr hi
  refine .inl ⟨by simp [Region.wanted, hg], ?_⟩
  unfold Oper.quietAt
  rw [h a.eval w (fun x u hx hu => eval_of hr hu fun t ht => by subst ht; exact mem_look hx) hi]
  exact ⟨rfl, rfl⟩

theorem EY.mk {R : Value → Ctx → Prop} (hg : o.guard = none)
    (h : ∀ (ρ : Operand → Value) w, (∀ x u, x ∈ o.op.operands.toList → evalO env x = some u → ρ x = u) → Inv M.B M.own ctx w →
      ∃ v w' ctx', ((execOp ρ o).run M.P w = .ok (.value v) w' ∨ (execOp ρ o).run M.P w = .ok .skip w' ∧ v = undef) ∧ Inv M.B M.own ctx' w' ∧ R v ctx') : EY M all o env ctx R := by
  intro a w hr hi
  refine ⟨by simp [Region.wanted, hg], ?_⟩
  obtain ⟨v, w', ctx', hrun, hinv, hR⟩ := h a.eval w (fun x u hx hu => eval_of hr hu fun t ht => by subst ht; exact mem_look hx) hi
  unfold Oper.wp
  rcases hrun with hrun | ⟨hrun, rfl⟩
  · rw [hrun]; exact ⟨v, ctx', rfl, hinv, hR⟩
  · rw [hrun]; exact ⟨_, ctx', rfl, hinv, hR⟩

theorem EY.call {R : Value → Ctx → Prop} (hg : o.guard = none) {f : FuncId} {args : List Value} {pre r : Ctx} {Q : Value → Ctx → Prop}
    (hrun : ∀ (ρ : Operand → Value) w, (∀ x u, x ∈ o.op.operands.toList → evalO env x = some u → ρ x = u) → (execOp ρ o).run M.P w = .ok (.enter f args.toArray) w)
    (hp : Pick pre ctx r) (hs : ∀ w, Inv M.B M.own ctx w → Ctr M.P f args w pre Q) (hR : ∀ v post, Q v post → R v (post ++ r)) : EY M all o env ctx R := by
  intro a w hrp hi
  refine ⟨by simp [Region.wanted, hg], ?_⟩
  unfold Oper.wp
  rw [hrun a.eval w (fun x u hx hu => eval_of hrp hu fun t ht => by subst ht; exact mem_look hx)]
  refine ((hs w hi).framed hp hi).mono ?_
  rintro e w' ⟨v, post, rfl, hinv, hQ⟩
  exact ⟨v, post ++ r, rfl, hinv, hR v post hQ⟩

theorem QY.call (hg : o.guard = none) {f : FuncId} {args : List Value} {pre r : Ctx}
    (hrun : ∀ (ρ : Operand → Value) w, (∀ x u, x ∈ o.op.operands.toList → evalO env x = some u → ρ x = u) → (execOp ρ o).run M.P w = .ok (.enter f args.toArray) w)
    (hp : Pick pre ctx r) (hs : ∀ w, Inv M.B M.own ctx w → Ctr M.P f args w pre (fun u c => u = v ∧ c = pre)) : QY M all o env ctx v := by
  intro a w hrp hi
  refine .inl ⟨by simp [Region.wanted, hg], ?_⟩
  unfold Oper.quietAt
  rw [hrun a.eval w (fun x u hx hu => eval_of hrp hu fun t ht => by subst ht; exact mem_look hx)]
  exact ⟨rfl, ((hs w hi).still hp hi).mono fun _ _ h => h⟩

theorem QY.guard {j : Nat} {want : Bool} {d : Tmp} (hgd : o.guard = some (j, want)) (hj : (all[j]?).bind (·.dst) = some d) (hb : look env d = some (.bool want))
    (h : QY M all { o with guard := none } env ctx v) : QY M all o env ctx v := by
  intro a w hr hi
  have hd : d ∈ o.looksAt all := by simp [Oper.looksAt, hgd, hj]
  have ht := hr.ag d _ hd hb
  have hy : yielded all a.tmps j = some want := by simp only [yielded, hj, Option.bind_some, ht]
  have hw : Region.wanted o (yielded all a.tmps) = true := by simp [Region.wanted, hgd, hy]
  have hr' : RepOn M.n ((({ o with guard := none } : Oper)).looksAt all) env a := ⟨hr.df, hr.sz, fun t v ht => hr.ag t v (by
    simp only [Oper.looksAt, List.append_nil] at ht
    exact List.mem_append_left _ ht)⟩
  rcases h a w hr' hi with ⟨_, hq⟩ | ⟨hf, _⟩
  · exact .inl ⟨hw, hq⟩
  · simp [Region.wanted] at hf

theorem QY.skip {j : Nat} {want b : Bool} {d : Tmp} (hgd : o.guard = some (j, want)) (hj : (all[j]?).bind (·.dst) = some d) (hb : look env d = some (.bool b)) (hne : b = !want) : QY M all o env ctx undef := by
  intro a w hr hi
  have hd : d ∈ o.looksAt all := by simp [Oper.looksAt, hgd, hj]
  have ht := hr.ag d _ hd hb
  have hy : yielded all a.tmps j = some b := by simp only [yielded, hj, Option.bind_some, ht]
  refine .inr ⟨?_, rfl⟩
  simp [Region.wanted, hgd, hy, hne]

theorem EY.guard {R : Value → Ctx → Prop} {j : Nat} {want : Bool} {d : Tmp} (hgd : o.guard = some (j, want)) (hj : (all[j]?).bind (·.dst) = some d) (hb : look env d = some (.bool want))
    (h : EY M all { o with guard := none } env ctx R) : EY M all o env ctx R := by
  intro a w hr hi
  have hd : d ∈ o.looksAt all := by simp [Oper.looksAt, hgd, hj]
  have ht := hr.ag d _ hd hb
  have hy : yielded all a.tmps j = some want := by simp only [yielded, hj, Option.bind_some, ht]
  have hw : Region.wanted o (yielded all a.tmps) = true := by simp [Region.wanted, hgd, hy]
  have hr' : RepOn M.n ((({ o with guard := none } : Oper)).looksAt all) env a := ⟨hr.df, hr.sz, fun t v ht => hr.ag t v (by
    simp only [Oper.looksAt, List.append_nil] at ht
    exact List.mem_append_left _ ht)⟩
  exact ⟨hw, (h a w hr' hi).2⟩
end

/-! ## Entering a function -/

def argE : Nat → List Value → Env
  | _, [] => []
  | k, v :: r => (k, v) :: argE (k + 1) r

theorem look_argE : ∀ (vs : List Value) (k t : Nat) (v : Value), look (argE k vs) t = some v → k ≤ t ∧ vs[t - k]? = some v
  | [], _, _, _, h => by simp [argE, look] at h
  | u :: vs, k, t, v, h => by
    simp only [argE, look_cons] at h
    by_cases e : k = t
    · subst e; simp only [if_true, Option.some.injEq] at h; subst h; simp
    · rw [if_neg e] at h
      obtain ⟨h1, h2⟩ := look_argE vs (k + 1) t v h
      refine ⟨by omega, ?_⟩
      rw [show t - k = (t - (k + 1)) + 1 by omega]
      simpa using h2

def Res (M : Mach) (fn : Func) (Q : Value → Ctx → Prop) (env : Env) (ctx : Ctx) : Prop :=
  ∃ v c c0 r, Pick c0 ctx r ∧ c0.flatten = c.flatten ∧ (∀ a w, Rep M.n env a → Inv M.B M.own ctx w → (results fn a.tmps).run M.P w = .ok v w) ∧ Q v c

def post (M : Mach) (fn : Func) (Q : Value → Ctx → Prop) : Exit → Env → Ctx → Prop
  | .normal, env, ctx => Res M fn Q env ctx
  | .ret, env, ctx => Res M fn Q env ctx
  | _, _, _ => False

theorem Ctr.intro {P : Program} {f : FuncId} {fn : Func} {c : Code} {args : List Value} {B : World} {pre : Ctx} {Q : Value → Ctx → Prop} {n : Nat}
    (hf : P.funcs[f]? = some fn) (hb : fn.body = some c) (hn : fn.ntmps = n) (hle : args.length ≤ n)
    (h : W ⟨P, B, dom pre, n⟩ c (post ⟨P, B, dom pre, n⟩ fn Q) (argE 0 args) pre) : Ctr P f args B pre Q := by
  intro hi
  have hrep : Rep n (argE 0 args) { tmps := args.toArray ++ Array.replicate (fn.ntmps - args.toArray.size) undef, defers := [] } := by
    refine ⟨rfl, by simp [hn]; omega, fun t v ht => ?_⟩
    obtain ⟨_, h2⟩ := look_argE args 0 t v ht
    simp only [Nat.sub_zero] at h2
    have hlt : t < args.length := (List.getElem?_eq_some_iff.1 h2).1
    rw [Array.getElem?_append_left (by simpa using hlt)]
    simpa using h2
  refine calls_of_wp hf hb (wp_mono (h _ _ hrep hi) ?_)
  rintro e a w ⟨env, ctx, h1, h2, h3⟩
  have hres : Res ⟨P, B, dom pre, n⟩ fn Q env ctx → a.defers = [] ∧ ∃ v, (results fn a.tmps).run P w = .ok v w ∧ ∃ v' post, Ending.returned v = .returned v' ∧ Inv B (dom pre) post w ∧ Q v' post := by
    rintro ⟨v, c, c0, r, hp, hc, hrun, hq⟩
    exact ⟨h1.df, v, hrun a w h1 h2, v, c, rfl, (h2.pick hp).conv hc, hq⟩
  cases e with
  | normal => exact hres h3
  | ret => exact hres h3
  | exit id => exact h3.elim
  | goto l => exact h3.elim
  | panic c => exact h3.elim
  | outgrown => exact h3.elim

theorem res1 {M : Mach} {fn : Func} {Q : Value → Ctx → Prop} {env : Env} {ctx c c0 r : Ctx} {t : Tmp} {v : Value} (hr : fn.results = #[.tmp t]) (hv : look env t = some v) (hp : Pick c0 ctx r) (hc : c0.flatten = c.flatten) (hq : Q v c) : Res M fn Q env ctx :=
  ⟨v, c, c0, r, hp, hc, fun a w hrep _ => by have := hrep.ag t v hv; simp [results, hr, this], hq⟩

theorem res0 {M : Mach} {fn : Func} {Q : Value → Ctx → Prop} {env : Env} {ctx c c0 r : Ctx} (hr : fn.results = #[]) (hp : Pick c0 ctx r) (hc : c0.flatten = c.flatten) (hq : Q (.tuple #[]) c) : Res M fn Q env ctx :=
  ⟨_, c, c0, r, hp, hc, fun a w _ _ => by simp [results, hr], hq⟩

theorem res2 {M : Mach} {fn : Func} {Q : Value → Ctx → Prop} {env : Env} {ctx c c0 r : Ctx} {t t2 : Tmp} {v v2 : Value} (hr : fn.results = #[.tmp t, .tmp t2]) (hv : look env t = some v) (hv2 : look env t2 = some v2)
    (hp : Pick c0 ctx r) (hc : c0.flatten = c.flatten) (hq : Q (.tuple #[v, v2]) c) : Res M fn Q env ctx :=
  ⟨_, c, c0, r, hp, hc, fun a w hrep _ => by have h1 := hrep.ag t v hv; have h2 := hrep.ag t2 v2 hv2; simp [results, hr, h1, h2], hq⟩

theorem res3 {M : Mach} {fn : Func} {Q : Value → Ctx → Prop} {env : Env} {ctx c c0 r : Ctx} {t t2 t3 : Tmp} {v v2 v3 : Value} (hr : fn.results = #[.tmp t, .tmp t2, .tmp t3]) (hv : look env t = some v) (hv2 : look env t2 = some v2) (hv3 : look env t3 = some v3)
    (hp : Pick c0 ctx r) (hc : c0.flatten = c.flatten) (hq : Q (.tuple #[v, v2, v3]) c) : Res M fn Q env ctx :=
  ⟨_, c, c0, r, hp, hc, fun a w hrep _ => by have h1 := hrep.ag t v hv; have h2 := hrep.ag t2 v2 hv2; have h3 := hrep.ag t3 v3 hv3; simp [results, hr, h1, h2, h3], hq⟩

end Go.SL
