/-
  The separation logic within a fence: ranges over functions.
-/
import Derived.Test.YtbfplncdmbjjhaaGreatRow
import Derived.Test.YtbfplncdmbjjhaaGreatMap
import Derived.RangeFuncLeaves
import Derived.RangeFuncRecord
import Derived.RangeFuncSeq
import Derived.RangeFuncCalls
import Derived.OwnWalkIn
import Derived.TacticsIn
set_option linter.unusedSectionVars false
set_option linter.unusedSimpArgs false
set_option linter.unusedVariables false
namespace Go.SL

/-- A fence that lets everything by. -/
inductive Free : Fence → Prop where
  | wide : Free Fence.wide
  | round (l : Nat) : Free (Fence.wide.inRound l)

theorem Free.fn {F : Fence} (h : Free F) (f : FuncId) : F.fn f := by cases h <;> trivial
theorem Free.dp {F : Fence} (h : Free F) : F.depth.isSome = true → 1 ≤ 0 := by cases h <;> (intro e; cases e)
theorem Free.calls {F : Fence} (h : Free F) {n : Nat} {P : Program} {f : FuncId} {args : Array Value} {w : World} {R : Ending → World → Prop} (hc : Calls P f args w R) : CallsIn F n P f args w R := by
  cases h with
  | wide => exact callsIn_wide.2 hc
  | round l => exact CallsIn.inRound l (callsIn_wide.2 hc)
theorem Free.rows {F : Fence} (h : Free F) {n : Nat} {P : Program} {row : String} {args : Array Value} {w : World} {R : Value → World → Prop} (hc : Rows P row args w R) : RowsIn F n P row args w R := by
  have key : RowsIn Fence.wide n P row args w R := fun c cs _ => let ⟨v, w', r, s⟩ := hc c cs; ⟨v, w', r, stepsIn_wide.2 s⟩
  cases h with
  | wide => exact key
  | round l => exact key

structure RepD (n : Nat) (ds : List Deferred) (env : Env) (a : Act) : Prop where
  rep : Rep n env { a with defers := [] }
  df : a.defers = ds

theorem RepD.of {n : Nat} {env : Env} {a : Act} (h : Rep n env a) : RepD n [] env a := by
  refine ⟨?_, h.df⟩
  have : ({ a with defers := [] } : Act) = a := by
    have := h.df
    cases a
    simp_all
  rw [this]; exact h
theorem RepD.plain {n : Nat} {env : Env} {a : Act} (h : RepD n [] env a) : Rep n env a := ⟨h.df, h.rep.sz, h.rep.ag⟩
theorem RepD.put {n : Nat} {ds : List Deferred} {env : Env} {a : Act} (h : RepD n ds env a) {dst : Option Tmp} {v : Value} (hd : ∀ d, dst = some d → d < n) : RepD n ds (putE dst v env) (a.put dst v) := by
  refine ⟨?_, ?_⟩
  · have := h.rep.put (dst := dst) (v := v) hd
    have e : ({ a.put dst v with defers := [] } : Act) = ({ a with defers := [] } : Act).put dst v := by cases dst <;> rfl
    rw [e]; exact this
  · have := h.df
    cases dst <;> simpa [Act.put] using this
theorem RepD.sub {n : Nat} {ds : List Deferred} {env env' : Env} {a : Act} (hs : Sub env' env) (h : RepD n ds env a) : RepD n ds env' a := ⟨h.rep.sub hs, h.df⟩
theorem eval_df (a : Act) (ds : List Deferred) : ({ a with defers := ds } : Act).eval = a.eval := funext fun x => by cases x <;> rfl

abbrev QD := Exit → List Deferred → Env → Ctx → Prop
def liftD (M : Mach) (Q : QD) : Exit → Act → World → Prop :=
  fun e a w => ∃ ds env ctx, RepD M.n ds env a ∧ Inv M.B M.own ctx w ∧ Q e ds env ctx
def WI (F : Fence) (M : Mach) (c : Code) (Q : QD) (ds : List Deferred) (env : Env) (ctx : Ctx) : Prop :=
  ∀ a w, RepD M.n ds env a → Inv M.B M.own ctx w → c.wpIn F 0 M.P (liftD M Q) a w
def thenD (K : List Deferred → Env → Ctx → Prop) (Q : QD) : QD
  | .normal, ds, e, c => K ds e c
  | x, ds, e, c => Q x ds e c
def blockD (id : Nat) (Q : QD) : QD
  | .exit i, ds, e, c => if i = id then Q .normal ds e c else Q (.exit i) ds e c
  | x, ds, e, c => Q x ds e c

section
variable {F : Fence} {M : Mach} {Q Q' : QD} {ds : List Deferred} {env : Env} {ctx : Ctx}

theorem liftD_mono (h : ∀ e ds env ctx, Q e ds env ctx → Q' e ds env ctx) : ∀ e a w, liftD M Q e a w → liftD M Q' e a w :=
  fun e _ _ ⟨ds, env, ctx, h1, h2, h3⟩ => ⟨ds, env, ctx, h1, h2, h e ds env ctx h3⟩

theorem WI_mono {c : Code} (hq : ∀ e ds env ctx, Q e ds env ctx → Q' e ds env ctx) (h : WI F M c Q ds env ctx) : WI F M c Q' ds env ctx :=
  fun a w hr hi => wpIn_mono (h a w hr hi) (liftD_mono hq)

theorem WI_seq {x y : Code} (h : WI F M x (thenD (WI F M y Q) Q) ds env ctx) : WI F M (.seq x y) Q ds env ctx := by
  intro a w hr hi
  refine wpIn_seq (wpIn_mono (h a w hr hi) ?_)
  rintro e a w ⟨ds, env, ctx, h1, h2, h3⟩
  cases e with
  | normal => exact h3 a w h1 h2
  | exit id => exact ⟨ds, env, ctx, h1, h2, h3⟩
  | goto l => exact ⟨ds, env, ctx, h1, h2, h3⟩
  | ret => exact ⟨ds, env, ctx, h1, h2, h3⟩
  | panic c => exact ⟨ds, env, ctx, h1, h2, h3⟩
  | outgrown => exact ⟨ds, env, ctx, h1, h2, h3⟩

theorem WI_block {id : Nat} {c : Code} (h : WI F M c (blockD id Q) ds env ctx) : WI F M (.block id c) Q ds env ctx := by
  intro a w hr hi
  refine wpIn_block (wpIn_mono (h a w hr hi) ?_)
  rintro e a w ⟨ds, env, ctx, h1, h2, h3⟩
  cases e with
  | exit i =>
    simp only [blockD] at h3
    simp only [Exit.inBlock]
    split
    · rename_i he; rw [if_pos he] at h3; exact ⟨ds, env, ctx, h1, h2, h3⟩
    · rename_i he; rw [if_neg he] at h3; exact ⟨ds, env, ctx, h1, h2, h3⟩
  | normal => exact ⟨ds, env, ctx, h1, h2, h3⟩
  | goto l => exact ⟨ds, env, ctx, h1, h2, h3⟩
  | ret => exact ⟨ds, env, ctx, h1, h2, h3⟩
  | panic c => exact ⟨ds, env, ctx, h1, h2, h3⟩
  | outgrown => exact ⟨ds, env, ctx, h1, h2, h3⟩

theorem WI_skip (h : Q .normal ds env ctx) : WI F M .skip Q ds env ctx := fun _ _ hr hi => wpIn_skip ⟨ds, env, ctx, hr, hi, h⟩
theorem WI_label {l : Nat} (h : Q .normal ds env ctx) : WI F M (.label l) Q ds env ctx := fun _ _ hr hi => wpIn_label ⟨ds, env, ctx, hr, hi, h⟩
theorem WI_exit {id : Nat} (h : Q (.exit id) ds env ctx) : WI F M (.exit id) Q ds env ctx := fun _ _ hr hi => wpIn_exit ⟨ds, env, ctx, hr, hi, h⟩
theorem WI_ret (h : Q .ret ds env ctx) : WI F M .ret Q ds env ctx := fun _ _ hr hi => wpIn_ret ⟨ds, env, ctx, hr, hi, h⟩

theorem evalD {n : Nat} {a : Act} (h : RepD n ds env a) {x : Operand} {v : Value} (hx : evalO env x = some v) : a.eval x = v := by
  have he := eval_of (h.rep.on (match x with | .tmp t => [t] | _ => [])) hx (fun t ht => by subst ht; simp)
  rw [eval_df] at he
  exact he

theorem WI_cond {c : Operand} {x y : Code} {t : Bool} (hc : evalO env c = some (.bool t)) (h1 : t = true → WI F M x Q ds env ctx) (h2 : t = false → WI F M y Q ds env ctx) :
    WI F M (.cond c x y) Q ds env ctx := by
  intro a w hr hi
  exact wpIn_cond_split (evalD hr hc) (fun ht => h1 ht a w hr hi) (fun ht => h2 ht a w hr hi)
theorem WI_true {c : Operand} {x y : Code} (hc : evalO env c = some (.bool true)) (h1 : WI F M x Q ds env ctx) : WI F M (.cond c x y) Q ds env ctx :=
  WI_cond hc (fun _ => h1) (fun h => by cases h)
theorem WI_false {c : Operand} {x y : Code} (hc : evalO env c = some (.bool false)) (h2 : WI F M y Q ds env ctx) : WI F M (.cond c x y) Q ds env ctx :=
  WI_cond hc (fun h => by cases h) (fun _ => h2)

theorem WI_weak {c : Code} {env' : Env} {ctx' r : Ctx} (hs : Sub env' env) (hp : Pick ctx' ctx r) (h : WI F M c Q ds env' ctx') : WI F M c Q ds env ctx :=
  fun a w hr hi => h a w (hr.sub hs) (hi.pick hp)
theorem WI_conv {c : Code} {ctx' : Ctx} (hc : ctx.flatten = ctx'.flatten) (h : WI F M c Q ds env ctx') : WI F M c Q ds env ctx :=
  fun a w hr hi => h a w hr (hi.conv hc)

theorem WI_loopD {r : Ctx} {c : Code} {D : Type} (E : D → Env) (C : D → Ctx) (ms : D → Nat) (P : D → Prop) (d0 : D) (hp : P d0) (hs : Sub (E d0) env) (hk : Pick (C d0) ctx r)
    (hr : ∀ d, P d → WI F M c (thenD (fun ds' env' ctx' => ∃ d' r, ds' = ds ∧ P d' ∧ ms d' < ms d ∧ Sub (E d') env' ∧ Pick (C d') ctx' r) Q) ds (E d) (C d)) : WI F M (.loop c) Q ds env ctx := by
  intro a w hrep hinv b k cs hro hb hroom
  have key : ∀ m a w d, ms d = m → P d → RepD M.n ds (E d) a → Inv M.B M.own (C d) w →
      ∃ e a' w', liftD M Q e a' w' ∧ ArrivesIn (Machine.fenced M.P F) M.P (lone (b.atR a (.code c :: .inLoop c :: k)) cs w) b k cs e a' w' := by
    intro m
    induction m using Nat.strongRecOn with
    | _ m ih =>
      intro a w d hm hP h1 h2
      obtain ⟨e, a₁, w₁, ⟨ds₁, env₁, ctx₁, g1, g2, g3⟩, harr⟩ := hr d hP a w h1 h2 b (.inLoop c :: k) cs hro hb hroom
      cases e with
      | normal =>
        obtain ⟨d', r', rfl, hP', hlt, hs', hk'⟩ := g3
        obtain ⟨e₂, a₂, w₂, hq₂, harr₂⟩ := ih (ms d') (hm ▸ hlt) a₁ w₁ d' rfl hP' (g1.sub hs') (g2.pick hk')
        exact ⟨e₂, a₂, w₂, hq₂, .of_steps (StepsIn.trans harr (.one (fenced_calm hb hroom rfl) stepR_inLoop)) harr₂⟩
      | exit id => exact ⟨_, a₁, w₁, ⟨ds₁, env₁, ctx₁, g1, g2, g3⟩, .pass (x := .inLoop c) rfl (fun _ _ => .inl (by simp)) harr⟩
      | goto l => exact ⟨_, a₁, w₁, ⟨ds₁, env₁, ctx₁, g1, g2, g3⟩, .pass (x := .inLoop c) rfl (fun _ _ => .inl (by simp)) harr⟩
      | ret => exact ⟨_, a₁, w₁, ⟨ds₁, env₁, ctx₁, g1, g2, g3⟩, .pass (x := .inLoop c) rfl (fun _ _ => .inl (by simp)) harr⟩
      | panic ch => exact ⟨_, a₁, w₁, ⟨ds₁, env₁, ctx₁, g1, g2, g3⟩, .pass (x := .inLoop c) rfl (fun _ _ => .inl (by simp)) harr⟩
      | outgrown => exact ⟨_, a₁, w₁, ⟨ds₁, env₁, ctx₁, g1, g2, g3⟩, .pass (x := .inLoop c) rfl (fun _ _ => .inl (by simp)) harr⟩
  obtain ⟨e, a', w', hq, harr⟩ := key (ms d0) a w d0 rfl hp (hrep.sub hs) (hinv.pick hk)
  exact ⟨e, a', w', hq, .of_steps (.one (fenced_calm hb hroom rfl) stepR_loop) harr⟩
end

/-! ## Operations -/
def plainB (o : Oper) : Bool := match o.op with
  | .defer _ => false
  | _ => true
theorem plainB_of {o : Oper} (h : plainB o = true) : ∀ c, o.op ≠ .defer c := fun c e => by simp [plainB, e] at h

def normD (K : List Deferred → Env → Ctx → Prop) : QD
  | .normal, ds, e, c => K ds e c
  | _, _, _, _ => False

def OI (F : Fence) (M : Mach) (all : Array Oper) (l : List Oper) (K : List Deferred → Env → Ctx → Prop) (ds : List Deferred) (env : Env) (ctx : Ctx) : Prop :=
  (l.all fun o => dstB M.n o && plainB o) = true → ∀ a w, RepD M.n ds env a → Inv M.B M.own ctx w → wpListIn F 0 M.P all (liftD M (normD K)) l a w

section
variable {F : Fence} {M : Mach} {all : Array Oper} {l : List Oper} {o : Oper} {K : List Deferred → Env → Ctx → Prop} {ds : List Deferred} {env : Env} {ctx : Ctx} {v : Value}

theorem OI_nil (h : K ds env ctx) : OI F M all [] K ds env ctx := fun _ _ _ hr hi => ⟨ds, env, ctx, hr, hi, h⟩

theorem OI_q (hF : Free F) (h : QY M all o env ctx v) (k : OI F M all l K ds (putE o.dst v env) ctx) : OI F M all (o :: l) K ds env ctx := by
  intro hd a w hr hi
  simp only [List.all_cons, Bool.and_eq_true] at hd
  obtain ⟨⟨hd1, hd2⟩, hd3⟩ := hd
  have hrep : RepD M.n ds (putE o.dst v env) (a.put o.dst v) := hr.put (dstB_lt hd1)
  have hy : yielded all ({ a with defers := [] } : Act).tmps = yielded all a.tmps := rfl
  rcases h _ w (hr.rep.on _) hi with ⟨hw, hq⟩ | ⟨hw, rfl⟩
  · rw [hy] at hw
    unfold wpListIn
    rw [if_pos hw]
    refine ⟨fun f _ => hF.fn f, ?_⟩
    rw [Oper.semAt_plain F _ _ (plainB_of hd2)]
    unfold Oper.quietAt at hq
    rw [eval_df] at hq
    generalize (execOp a.eval o).run M.P w = r at *
    cases r with
    | ok n w' =>
      cases n <;> simp only [Oper.quietUpon] at hq
      case value u => obtain ⟨rfl, rfl⟩ := hq; exact k hd3 _ _ hrep hi
      case skip => obtain ⟨rfl, rfl⟩ := hq; exact k hd3 _ _ hrep hi
      case enter f args =>
        obtain ⟨rfl, hc⟩ := hq
        refine ⟨hF.dp, hF.calls (hc.mono ?_)⟩
        rintro e w'' ⟨he, hs⟩
        subst he
        exact k hd3 _ _ hrep (hi.same hs)
    | halt x w' => simp only [Oper.quietUpon] at hq
  · rw [hy] at hw
    unfold wpListIn
    rw [if_neg (by simp [hw])]
    exact ⟨fun f _ => hF.fn f, k hd3 _ _ hrep hi⟩

theorem put_df (a : Act) (d : Option Tmp) (v : Value) : a.put d v = { ({ a with defers := [] } : Act).put d v with defers := a.defers } := by cases d <;> rfl

theorem OI_e (hF : Free F) {R : Value → Ctx → Prop} (h : EY M all o env ctx R) (k : ∀ v ctx', R v ctx' → OI F M all l K ds (putE o.dst v env) ctx') : OI F M all (o :: l) K ds env ctx := by
  intro hd a w hr hi
  simp only [List.all_cons, Bool.and_eq_true] at hd
  obtain ⟨⟨hd1, hd2⟩, hd3⟩ := hd
  obtain ⟨hw, hq⟩ := h _ w (hr.rep.on _) hi
  unfold wpListIn
  rw [if_pos (show Region.wanted o (yielded all a.tmps) = true from hw)]
  refine ⟨fun f _ => hF.fn f, ?_⟩
  rw [Oper.semAt_plain F _ _ (plainB_of hd2)]
  unfold Oper.wp at hq
  rw [eval_df] at hq
  have fin : ∀ u w', (∃ v ctx', ({ a with defers := [] } : Act).put o.dst u = ({ a with defers := [] } : Act).put o.dst v ∧ Inv M.B M.own ctx' w' ∧ R v ctx') → wpListIn F 0 M.P all (liftD M (normD K)) l (a.put o.dst u) w' := by
    rintro u w' ⟨v, ctx', hp, hinv, hR⟩
    have : a.put o.dst u = a.put o.dst v := by rw [put_df a o.dst u, hp, ← put_df]
    rw [this]
    exact k v ctx' hR hd3 _ _ (hr.put (dstB_lt hd1)) hinv
  generalize (execOp a.eval o).run M.P w = r at *
  cases r with
  | ok n w' =>
    cases n <;> simp only [Oper.upon] at hq
    case value u => exact fin u w' hq
    case skip => exact fin undef w' hq
    case enter f args =>
      refine ⟨hF.dp, hF.calls (hq.mono ?_)⟩
      intro e w'' he
      cases e with
      | returned v => exact fin v w'' he
      | panicked c => exact he.elim
      | outgrown => obtain ⟨_, _, hf⟩ := he; exact hf.elim
    case row row args => exact ⟨hF.dp, hF.rows (Rows.mono hq fun v w'' he => fin v w'' he)⟩
    case defer d =>
      obtain ⟨v, ctx', hp, _⟩ := hq
      exfalso
      have : (d :: []) = ([] : List Deferred) := by
        have := congrArg Act.defers hp
        cases hdd : o.dst <;> simp [Act.put, hdd] at this
      cases this
  | halt x w' => cases x <;> simp only [Oper.upon] at hq <;> exact hq.elim

section
variable {d : Tmp} {op : Op} {ty : TypeId} {pos : String} {aft : Array Edge} {g : Option (Nat × Bool)}
theorem OI_qs (hF : Free F) (h : QY M all ⟨some d, op, ty, pos, aft, g⟩ env ctx v) (k : OI F M all l K ds ((d, v) :: env) ctx) : OI F M all (⟨some d, op, ty, pos, aft, g⟩ :: l) K ds env ctx := OI_q hF h k
theorem OI_qn (hF : Free F) (h : QY M all ⟨none, op, ty, pos, aft, g⟩ env ctx v) (k : OI F M all l K ds env ctx) : OI F M all (⟨none, op, ty, pos, aft, g⟩ :: l) K ds env ctx := OI_q hF h k
theorem OI_es (hF : Free F) {R : Value → Ctx → Prop} (h : EY M all ⟨some d, op, ty, pos, aft, g⟩ env ctx R) (k : ∀ v ctx', R v ctx' → OI F M all l K ds ((d, v) :: env) ctx') : OI F M all (⟨some d, op, ty, pos, aft, g⟩ :: l) K ds env ctx := OI_e hF h k
theorem OI_en (hF : Free F) {R : Value → Ctx → Prop} (h : EY M all ⟨none, op, ty, pos, aft, g⟩ env ctx R) (k : ∀ v ctx', R v ctx' → OI F M all l K ds env ctx') : OI F M all (⟨none, op, ty, pos, aft, g⟩ :: l) K ds env ctx := OI_e hF h k
end

theorem WI_reg {id : Nat} {l : List Oper} {Q : QD} (hd : (l.all fun o => dstB M.n o && plainB o) = true) (h : OI F M l.toArray l (Q .normal) ds env ctx) : WI F M (.region id l.toArray false) Q ds env ctx := by
  intro a w hr hi
  refine wpIn_mono (wpIn_region_lit (h hd a w hr hi)) (liftD_mono ?_)
  intro e ds env ctx hq
  cases e <;> first | exact hq | exact hq.elim
end

/-! ## Rounds -/

/-- What a round of the loop l does, as a contract. -/
def Rnd (P : Program) (l : Nat) (args : List Value) (B : World) (pre : Ctx) (Q : Ctx → Prop) : Prop :=
  Inv B (dom pre) pre B → YieldAt Fence.wide 0 P l args.toArray B fun e w' => e = .returned (.bool true) ∧ ∃ post, Inv B (dom pre) post w' ∧ Q post

theorem inv_frame {B w : World} {own : List Nat} {ctx pre r : Ctx} (hp : Pick pre ctx r) (hi : Inv B own ctx w) :
    Inv w (dom pre) pre w ∧ ∀ w' post, Inv w (dom pre) post w' → Inv B own (post ++ r) w' := by
  have hi' := hi.perm hp.perm
  have hn := hi'.nd
  rw [dom_append] at hn
  obtain ⟨hn1, hn2, hn3⟩ := List.nodup_append.1 hn
  have hfr : ∀ b, b ∈ dom pre → b ∈ own ∨ B.heap.size ≤ b := fun b hb => hi'.fresh b (by rw [dom_append]; exact List.mem_append_left _ hb)
  refine ⟨⟨fun b o hm => hi'.heap b o (by simp only [List.flatten_append]; exact List.mem_append_left _ hm), hn1, fun b hb => .inl hb, fun _ _ _ => rfl, Nat.le_refl _, rfl, rfl, rfl⟩, ?_⟩
  intro w' post hv
  have hrlt : ∀ b o, (b, o) ∈ r.flatten → b < w.heap.size := fun b o hm => hi'.lt (b := b) (o := o) (by simp only [List.flatten_append]; exact List.mem_append_right _ hm)
  have hrlt' : ∀ b, b ∈ dom r → b < w.heap.size := by
    intro b hb
    obtain ⟨⟨b', o⟩, hm, rfl⟩ := List.mem_map.1 hb
    exact hrlt _ _ hm
  have hnot : ∀ b, b ∈ dom r → b ∉ dom pre := fun b hb hb' => hn3 b hb' b hb rfl
  refine ⟨?_, ?_, ?_, ?_, ?_, hv.tape.trans hi.tape, hv.os.trans hi.os, hv.output.trans hi.output⟩
  · intro b o hm
    simp only [List.flatten_append, List.mem_append] at hm
    rcases hm with hm | hm
    · exact hv.heap b o hm
    · rw [hv.kept b (hrlt b o hm) (hnot b (List.mem_map.2 ⟨_, hm, rfl⟩))]
      exact hi'.heap b o (by simp only [List.flatten_append]; exact List.mem_append_right _ hm)
  · rw [dom_append]
    refine List.nodup_append.2 ⟨hv.nd, hn2, fun a ha b hb hab => ?_⟩
    subst hab
    rcases hv.fresh a ha with h1 | h1
    · exact hnot a hb h1
    · have := hrlt' a hb; omega
  · intro b hb
    rw [dom_append, List.mem_append] at hb
    rcases hb with hb | hb
    · rcases hv.fresh b hb with h1 | h1
      · exact hfr b h1
      · exact .inr (Nat.le_trans hi.size h1)
    · exact hi'.fresh b (by rw [dom_append]; exact List.mem_append_right _ hb)
  · intro b hb ho
    have hb' : b ∉ dom pre := fun hm => by
      rcases hfr b hm with h1 | h1
      · exact ho h1
      · omega
    rw [hv.kept b (Nat.lt_of_lt_of_le hb hi.size) hb', hi.kept b hb ho]
  · exact Nat.le_trans hi.size hv.size

theorem YieldAt.mono' {F : Fence} {m : Nat} {P : Program} {l : Nat} {args : Array Value} {W : World} {R R' : Ending → World → Prop} (h : YieldAt F m P l args W R) (hr : ∀ e w', R e w' → R' e w') : YieldAt F m P l args W R' := by
  obtain ⟨fn, tmps, assign, body, h1, h2⟩ := h
  exact ⟨fn, tmps, assign, body, h1, h2.mono hr⟩

section
variable {M : Mach} {all : Array Oper} {l : List Oper} {K : List Deferred → Env → Ctx → Prop} {ds : List Deferred} {env : Env} {ctx : Ctx}

/-- The iterator calls yield. -/
theorem OI_yield {d : Tmp} {x y : Operand} {ts : Array TypeId} {ty : TypeId} {pos : String} {aft : Array Edge} {lp : Nat} {u : Value} {pre r : Ctx} {Q : Ctx → Prop}
    (hx : evalO env x = some (.func (.yield lp) #[] #[])) (hy : evalO env y = some u) (hp : Pick pre ctx r)
    (hr : ∀ w, Inv M.B M.own ctx w → Rnd M.P lp [u] w pre Q) (k : ∀ post, Q post → OI Fence.wide M all l K ds ((d, .bool true) :: env) (post ++ r)) :
    OI Fence.wide M all (⟨some d, .call ⟨.value x, #[y], ts⟩, ty, pos, aft, none⟩ :: l) K ds env ctx := by
  intro hd a w hrep hi
  simp only [List.all_cons, Bool.and_eq_true] at hd
  obtain ⟨⟨hd1, hd2⟩, hd3⟩ := hd
  obtain ⟨hi1, hi2⟩ := inv_frame hp hi
  obtain ⟨fn, tmps, assign, body, hy1, hy2⟩ := hr w hi hi1
  unfold wpListIn
  rw [if_pos (by simp [Region.wanted])]
  refine ⟨fun f _ => trivial, ?_⟩
  rw [Oper.semAt_plain Fence.wide _ _ (plainB_of hd2)]
  have hex : (execOp a.eval ⟨some d, .call ⟨.value x, #[y], ts⟩, ty, pos, aft, none⟩).run M.P w = .ok (.round lp fn tmps assign body) w := by
    have e1 := evalD hrep hx
    have e2 := evalD hrep hy
    have hy1' : (Instr.yield lp #[u]).run M.P w = .ok (.round lp fn tmps assign body) w := hy1
    simp [execOp, resolve, Deferred.ofValue, invoke, e1, e2, Sem.run_bind, Result.andThen, hy1']
  rw [hex]
  refine ⟨(fun e => by cases e), hy2.mono ?_⟩
  rintro e w' ⟨rfl, post, hinv, hQ⟩
  exact k post hQ hd3 _ _ (hrep.put (dst := some d) (dstB_lt hd1)) (hi2 w' post hinv)
end

/-- A round out of the walks of its two texts. -/
theorem Rnd.intro {P : Program} {l n p : Nat} {B : World} {pre c1 c2 : Ctx} {rec : Loop} {v : Value} {env : Env} {Q : Ctx → Prop}
    (hm : ∀ o, Upd pre [(l, .loop rec)] [(l, o)] (c2 ++ [(l, o)] :: c1)) (hst : rec.state = .ready) (hps : rec.params = #[p]) (hpn : p < n) (ht : Rep n env { tmps := rec.tmps, defers := [] })
    (ha : WI (Fence.wide.inRound l) ⟨P, B, dom pre, n⟩ rec.assign (fun e ds env' ctx' => e = .normal ∧ ctx' = pre ∧
      WI (Fence.wide.inRound l) ⟨P, B, dom pre, n⟩ rec.body (fun e _ _ ctx'' => e = .normal ∧ ∃ (c : Obj → Ctx) (c' r' : Ctx), (∀ o, Upd ctx'' [(l, .loop { rec with state := .busy })] [(l, o)] (c o)) ∧ Pick c' (c (.loop { rec with state := .ready, pending := none })) r' ∧ Q c') ds env' (c2 ++ [(l, .loop { rec with state := .busy })] :: c1)) [] ((p, v) :: env) pre) :
    Rnd P l [v] B pre Q := by
  intro hi
  have hl := hi.upd_lt (hm (.loop rec)) (b := l) (List.mem_singleton.2 rfl)
  refine ⟨rec.fn, rec.tmps.setIfInBounds p v, rec.assign, rec.body, ?_, ?_⟩
  · have := run_yield (P := P) (args := #[v]) hl (by simp [hps])
    rw [hps] at this
    simpa using this
  · refine roundIn_of_wpIn trivial ?_
    have hrep : RepD n [] ((p, v) :: env) { tmps := rec.tmps.setIfInBounds p v, defers := [] } :=
      RepD.of (ht.put (dst := some p) (v := v) (fun d hd => by cases hd; exact hpn))
    refine wpIn_mono (ha _ B hrep hi) ?_
    rintro e a₁ w₁ ⟨ds, env₁, ctx₁, h1, h2, rfl, rfl, hb⟩
    have hl1 := h2.upd_lt (hm (.loop rec)) (b := l) (List.mem_singleton.2 rfl)
    have hlt1 : l < w₁.heap.size := (Array.getElem?_eq_some_iff.1 hl1).1
    refine ⟨_, run_beginRound hl1 hst, ?_⟩
    have h3 : Inv B (dom ctx₁) (c2 ++ [(l, .loop { rec with state := .busy })] :: c1) (w₁.putObj l (.loop { rec with state := .busy })) :=
      h2.upd (hm _) (World.putObj_heap_same hlt1) (fun k hk => World.putObj_heap_other hk) World.putObj_size rfl rfl rfl
    refine wpIn_mono (hb _ _ h1 h3) ?_
    rintro e a₂ w₂ ⟨ds₂, env₂, ctx₂, g1, g2, rfl, c, c', r', hc, hpk, hQ⟩
    have hl2 := g2.upd_lt (hc (.loop rec)) (b := l) (List.mem_singleton.2 rfl)
    have hlt2 : l < w₂.heap.size := (Array.getElem?_eq_some_iff.1 hl2).1
    refine ⟨_, _, run_endRound none hl2, rfl, _, ?_, hQ⟩
    exact (g2.upd (hc _) (World.putObj_heap_same hlt2) (fun k hk => World.putObj_heap_other hk) World.putObj_size rfl rfl rfl).pick hpk

theorem Upd.app {c c' : Ctx} {x y : Atom} (h : Upd c x y c') (r : Ctx) : Upd (c ++ r) x y (c' ++ r) := by
  induction h with
  | here => exact .here
  | there _ ih => exact .there ih
theorem Upd.pre {c c' : Ctx} {x y : Atom} (h : Upd c x y c') (q : Ctx) : Upd (q ++ c) x y (q ++ c') := by
  induction q with
  | nil => exact h
  | cons z q ih => exact .there ih

theorem Pick.skip {p c r : Ctx} (h : Pick p c r) (x : Atom) : Pick p (x :: c) (x :: r) := by
  induction h with
  | nil => exact .nil
  | cons ht _ ih => exact .cons (.there ht) ih
theorem pick_pre (u v : Ctx) : Pick u (u ++ v) v := by
  induction u with
  | nil => exact .nil
  | cons x u ih => exact .cons .here ih
theorem pick_suf (q c : Ctx) : Pick c (q ++ c) q := by
  induction q with
  | nil =>
    have := pick_pre c []
    rw [List.append_nil] at this
    exact this
  | cons x q ih => exact ih.skip x
theorem take_of_mem {x : Atom} {c : Ctx} (h : x ∈ c) : ∃ r, Take c x r := by
  induction c with
  | nil => cases h
  | cons y c ih =>
    rcases List.mem_cons.1 h with rfl | h
    · exact ⟨c, .here⟩
    · obtain ⟨r, hr⟩ := ih h; exact ⟨y :: r, .there hr⟩
theorem pick_of_perm : ∀ {p c : Ctx}, List.Perm c p → Pick p c []
  | [], c, h => by rw [List.Perm.eq_nil h]; exact .nil
  | x :: p, c, h => by
    obtain ⟨r, hr⟩ := take_of_mem (h.symm.subset (List.mem_cons_self ..))
    have h2 : List.Perm r p := (hr.perm.symm.trans h).cons_inv
    exact .cons hr (pick_of_perm h2)
theorem WI_perm {F : Fence} {M : Mach} {Q : QD} {ds : List Deferred} {env : Env} {ctx ctx' : Ctx} {c : Code} (hc : List.Perm ctx ctx') (h : WI F M c Q ds env ctx') : WI F M c Q ds env ctx :=
  fun a w hr hi => h a w hr (hi.perm hc)

/-- An iterator value, as a contract: f called with the yield of any loop. -/
def Gives {α : Type} (P : Program) (g : FuncId) (lb : List Value) (enc : α → Value) (S : List α → Prop) (N : Nat) (pre : Ctx) (post : Ctx) : Prop :=
  ∀ (l : Nat) (J : List α → Ctx → Prop) (c0 : Ctx) (B : World), J [] c0 →
    (∀ xs x c B, J xs c → xs.length < N → Rnd P l [enc x] B c (J (xs ++ [x]))) →
    Ctr P g (.func (.yield l) #[] #[] :: lb) B (pre ++ c0) (fun _ k => ∃ xs c, S xs ∧ J xs c ∧ k = post ++ c)

/-- The statement 'for x := range g'. -/
theorem WI_range {α : Type} {M : Mach} {g : Operand} {p : Tmp} {assign body : Code} {Q : QD} {env : Env} {ctx r c0 : Ctx} {gf : FuncId} {lb : List Value} {enc : α → Value} {S : List α → Prop} {N : Nat} {pre post : Ctx}
    (hg : evalO env g = some (.func (.func gf) #[] lb.toArray)) (hcf : ∀ args w, (callFunc gf args).run M.P w = .ok (.enter gf args) w)
    (hI : Gives M.P gf lb enc S N pre post) (hp : Pick (pre ++ c0) ctx r)
    (J : Nat → Nat → Loop → List α → Ctx → Prop)
    (h0 : ∀ l D fn t, Rep M.n env { tmps := t, defers := [] } → J l D { state := .ready, pending := none, fn := fn, tmps := t, params := #[p], assign := assign, body := body, defers := D } [] ([(l, .loop { state := .ready, pending := none, fn := fn, tmps := t, params := #[p], assign := assign, body := body, defers := D })] :: [(D, .deferred (some []))] :: c0))
    (hR : ∀ l D rec, rec.state = .ready → rec.params = #[p] → rec.assign = assign → rec.body = body → Rep M.n env { tmps := rec.tmps, defers := [] } → ∀ xs x c B, J l D rec xs c → xs.length < N → Rnd M.P l [enc x] B c (J l D rec (xs ++ [x])))
    (hE : ∀ l D rec xs c, rec.state = .ready → rec.pending = none → S xs → J l D rec xs c → ∃ c1 : Obj → Ctx, (∀ o, Upd c [(l, .loop rec)] [(l, o)] (c1 o)) ∧ Q .normal [{ target := .collected D, args := #[] }] env (post ++ c1 (.loop { rec with state := .exhausted }) ++ r)) :
    WI Fence.wide M (.rangeFunc g #[p] assign body) Q [] env ctx := by
  intro a w hrep hi
  refine wpIn_rangeFunc ?_
  intro fn hfn
  have he := evalD hrep hg
  let rec0 : Loop := { state := .ready, pending := none, fn := fn, tmps := a.tmps, params := #[p], assign := assign, body := body, defers := w.heap.size }
  have hrt : Rep M.n env { tmps := rec0.tmps, defers := [] } := hrep.rep
  let w1 := (w.alloc (.deferred (some []))).alloc (.loop rec0)
  have hi1 : Inv M.B M.own ([(w.heap.size + 1, .loop rec0)] :: [(w.heap.size, .deferred (some []))] :: ctx) w1 := by
    have h1 := hi.alloc (.deferred (some []))
    have h2 := h1.alloc (.loop rec0)
    rw [World.size_alloc] at h2
    exact h2
  refine ⟨w.heap.size + 1, [{ target := .collected w.heap.size, args := #[] }], w1, { target := .fn (.func gf) lb.toArray, args := #[.func (.yield (w.heap.size + 1)) #[] #[]] }, w1, gf,
    #[.func (.yield (w.heap.size + 1)) #[] #[]] ++ lb.toArray, w1, run_enterLoop_outer _ _ _ _ _, ?_, fun _ _ => trivial, ?_, (fun e => by cases e), ?_⟩
  · have hev : Act.eval a (Operand.const (Value.func (Fn.yield (w.heap.size + 1)) #[] #[])) = Value.func (Fn.yield (w.heap.size + 1)) #[] #[] := rfl
    simp [resolve, Deferred.ofValue, he, hev]
  · simp [invoke, hcf]
  · have hpk : ∀ {c c' : Ctx} (q : Ctx), Pick q c c' → ∀ (x y : Atom), Pick q (x :: y :: c) (x :: y :: c') := by
      intro c c' q h x y
      induction h with
      | nil => exact .nil
      | cons ht _ ih => exact .cons (.there (.there ht)) ih
    have hperm : List.Perm ([(w.heap.size + 1, Obj.loop rec0)] :: [(w.heap.size, Obj.deferred (some []))] :: ctx) ((pre ++ ([(w.heap.size + 1, Obj.loop rec0)] :: [(w.heap.size, Obj.deferred (some []))] :: c0)) ++ r) := by
      have h1 := hp.perm
      refine (List.Perm.cons _ (List.Perm.cons _ h1)).trans ?_
      simp only [List.append_assoc, List.cons_append]
      have s1 : ∀ (x : Atom) (u v : Ctx), List.Perm (x :: (u ++ v)) (u ++ x :: v) := fun x u v => (List.perm_middle).symm
      exact (List.Perm.cons _ (s1 _ _ _)).trans (s1 _ _ _)
    have hi2 := hi1.perm hperm
    have hpick : ∀ (u v : Ctx), Pick u (u ++ v) v := by
      intro u v
      induction u with
      | nil => exact .nil
      | cons x u ih => exact .cons .here ih
    have hctr := hI (w.heap.size + 1) (J (w.heap.size + 1) w.heap.size rec0) _ w1 (h0 _ _ _ _ hrt) (fun xs x c B hJ hl => hR _ _ rec0 rfl rfl rfl rfl hrt xs x c B hJ hl)
    have hcalls := hctr.framed (hpick _ r) hi2
    have hargs : (#[Value.func (Fn.yield (w.heap.size + 1)) #[] #[]] ++ lb.toArray) = (Value.func (Fn.yield (w.heap.size + 1)) #[] #[] :: lb).toArray := by simp
    rw [hargs]
    refine (Free.wide.calls (n := 0 - 1) (hcalls)).mono ?_
    rintro e w3 ⟨v, pst, rfl, hinv, xs, c, hS, hJ, rfl⟩
    obtain ⟨c1, hc1, hQ⟩ := hE _ _ rec0 xs c rfl rfl hS hJ
    have hup : ∀ o, Upd (post ++ c ++ r) [(w.heap.size + 1, .loop rec0)] [(w.heap.size + 1, o)] (post ++ c1 o ++ r) := fun o => ((hc1 o).pre post).app r
    have hl3 := hinv.upd_lt (hup (.loop rec0)) (b := w.heap.size + 1) (List.mem_singleton.2 rfl)
    have hlt3 := (Array.getElem?_eq_some_iff.1 hl3).1
    refine ⟨none, _, run_endLoop hl3 (by simp [rec0]), ?_⟩
    refine ⟨_, env, _, ⟨hrep.rep, ?_⟩, hinv.upd (hup _) (World.putObj_heap_same hlt3) (fun k hk => World.putObj_heap_other hk) World.putObj_size rfl rfl rfl, hQ⟩
    show _ ++ a.defers = _
    rw [hrep.df]
    rfl

/-- The end of a function that held such a loop. -/
def postM (M : Mach) (fn : Func) (Q : Value → Ctx → Prop) : QD
  | .ret, ds, env, ctx => ∃ D v c c0 r, ds = [{ target := .collected D, args := #[] }] ∧ Pick ([(D, .deferred (some []))] :: c0) ctx r ∧ c0.flatten = c.flatten ∧
      (∀ t, Rep M.n env { tmps := t, defers := [] } → ∀ w, (results fn t).run M.P w = .ok v w) ∧ Q v c
  | _, _, _, _ => False

theorem Ctr.introM {P : Program} {f : FuncId} {fn : Func} {c : Code} {args : List Value} {B : World} {pre : Ctx} {Q : Value → Ctx → Prop} {n : Nat}
    (hf : P.funcs[f]? = some fn) (hb : fn.body = some c) (hn : fn.ntmps = n) (hle : args.length ≤ n)
    (h : WI Fence.wide ⟨P, B, dom pre, n⟩ c (postM ⟨P, B, dom pre, n⟩ fn Q) [] (argE 0 args) pre) : Ctr P f args B pre Q := by
  intro hi
  have hrep : Rep n (argE 0 args) { tmps := args.toArray ++ Array.replicate (fn.ntmps - args.toArray.size) undef, defers := [] } := by
    refine ⟨rfl, by simp [hn]; omega, fun t v ht => ?_⟩
    obtain ⟨_, h2⟩ := look_argE args 0 t v ht
    simp only [Nat.sub_zero] at h2
    have hlt : t < args.length := (List.getElem?_eq_some_iff.1 h2).1
    rw [Array.getElem?_append_left (by simpa using hlt)]
    simpa using h2
  refine callsIn_wide.1 (callsIn_of_wp_marks (n := 0) hf hb trivial (wpIn_mono (h _ _ (RepD.of hrep) hi) ?_))
  rintro e a w ⟨ds, env, ctx, h1, h2, h3⟩
  cases e with
  | ret =>
    obtain ⟨D, v, c, c0, r, rfl, hp, hc, hrun, hq⟩ := h3
    show LeavesInM Fence.wide 0 P fn a.tmps _ a.defers .returning w
    rw [h1.df]
    have h4 := h2.pick hp
    have hD := h4.heap D (.deferred (some [])) (by simp)
    have hDl := (Array.getElem?_eq_some_iff.1 hD).1
    refine ⟨by simp, .inl ⟨D, _, rfl, run_takeDeferred hD, ?_⟩⟩
    refine ⟨v, hrun a.tmps h1.rep _, v, c, rfl, ?_, hq⟩
    have hu : Upd ([(D, Obj.deferred (some []))] :: c0) [(D, .deferred (some []))] [(D, .deferred none)] ([(D, Obj.deferred none)] :: c0) := .here
    have h5 := h4.upd hu (w' := w.putObj D (.deferred none)) (World.putObj_heap_same hDl) (fun k hk => World.putObj_heap_other hk) World.putObj_size rfl rfl rfl
    have h6 : Inv B (dom pre) c0 (w.putObj D (.deferred none)) := Inv.pick (p := c0) (r := [[(D, Obj.deferred none)]]) (by
      have : ∀ (u : Ctx) (x : Atom), Pick u (x :: u) [x] := by
        intro u x
        induction u with
        | nil => exact .nil
        | cons y u ih => exact .cons (.there .here) ih
      exact this _ _) h5
    exact h6.conv hc
  | normal => exact h3.elim
  | exit id => exact h3.elim
  | goto l => exact h3.elim
  | panic c => exact h3.elim
  | outgrown => exact h3.elim

/-- A walk of a function in the wide fence, without such a loop. -/
theorem Ctr.introI {P : Program} {f : FuncId} {fn : Func} {c : Code} {args : List Value} {B : World} {pre : Ctx} {Q : Value → Ctx → Prop} {n : Nat}
    (hf : P.funcs[f]? = some fn) (hb : fn.body = some c) (hn : fn.ntmps = n) (hle : args.length ≤ n)
    (h : WI Fence.wide ⟨P, B, dom pre, n⟩ c (fun e ds env ctx => ds = [] ∧ post ⟨P, B, dom pre, n⟩ fn Q e env ctx) [] (argE 0 args) pre) : Ctr P f args B pre Q := by
  refine Ctr.intro hf hb hn hle fun a w hr hi => ?_
  refine wp_mono (wpIn_wide.1 (h a w (RepD.of hr) hi)) ?_
  rintro e a w ⟨ds, env, ctx, h1, h2, rfl, h3⟩
  exact ⟨env, ctx, h1.plain, h2, h3⟩
end Go.SL
