/-
  Regions whose order is drawn: one walk, in an order of one's own choice, for whatever order the machine draws.
-/
import Derived.Test.YtbfplncdmbjjhaaGreatDOps
set_option linter.unusedSimpArgs false
set_option linter.unusedVariables false
namespace Go.SLD

/-- Direct predecessors that bind. -/
def preds (o : Oper) : List Nat := (o.after.toList.filter fun e => Region.binds .any e).map (·.on)

/-- an: a table of ancestors (each entry is one indeed), edges lead back. -/
def anB (all : Array Oper) (an : List (List Nat)) : Bool :=
  (List.range all.size).all fun i => match all[i]? with
    | none => false
    | some o => (preds o).all (fun p => Nat.blt p i) && (an.getD i []).all fun j => (preds o).any fun p => Nat.beq p j || (an.getD p []).contains j

theorem anB_spec {all : Array Oper} {an : List (List Nat)} (h : anB all an = true) {i : Nat} {o : Oper} (ho : all[i]? = some o) :
    (∀ p, p ∈ preds o → p < i) ∧ ∀ j, j ∈ an.getD i [] → ∃ p, p ∈ preds o ∧ (p = j ∨ j ∈ an.getD p []) := by
  have hi : i < all.size := (Array.getElem?_eq_some_iff.1 ho).1
  have := List.all_eq_true.1 h i (List.mem_range.2 hi)
  simp only [ho, Bool.and_eq_true] at this
  refine ⟨fun p hp => ?_, fun j hj => ?_⟩
  · have h1 := List.all_eq_true.1 this.1 p hp
    exact Nat.lt_of_lt_of_le (Nat.lt_succ_self _) (Nat.le_of_ble_eq_true h1)
  · have h1 := List.all_eq_true.1 this.2 j hj
    obtain ⟨p, hp, hpj⟩ := List.any_eq_true.1 h1
    refine ⟨p, hp, ?_⟩
    simp only [Bool.or_eq_true] at hpj
    rcases hpj with hpj | hpj
    · exact .inl (Nat.eq_of_beq_eq_true hpj)
    · exact .inr (List.contains_iff_mem.1 hpj)

def dstOf (all : Array Oper) (i : Nat) : Option Tmp := (all[i]?).bind (·.dst)
def looksOf (all : Array Oper) (i : Nat) : List Tmp := match all[i]? with | some o => o.looksAt all | none => []

/-- May the quiet operation k be carried out (in thought) when those of D are? -/
def qOkB (all : Array Oper) (an : List (List Nat)) (k : Nat) (D : List Nat) : Bool :=
  (!D.contains k && (match dstOf all k with
    | none => true
    | some d => !(looksOf all k).contains d && D.all fun j => (!(looksOf all j).contains d && dstOf all j != some d))) &&
  D.all fun j => (match dstOf all j with
    | none => true
    | some d => !(looksOf all k).contains d || (an.getD k []).contains j)

/-- Beside the operations C nothing can come up next; what floats across c is in fl or has been carried out (ef). -/
def eOkB (all : Array Oper) (an : List (List Nat)) (C D : List Nat) : Bool :=
  !C.isEmpty && (C.all fun c => !D.contains c && Nat.blt c all.size) && (List.range all.size).all fun i => D.contains i || C.contains i || (an.getD i []).any fun j => C.contains j

def cOkB (all : Array Oper) (an : List (List Nat)) (ef fl : List Nat) (c : Nat) (D : List Nat) : Bool :=
  D.all fun j => (an.getD c []).contains j || (((ef.contains j || fl.contains j) && (match dstOf all j with
      | none => true
      | some d => !(looksOf all c).contains d)) &&
    (match dstOf all c with
    | none => true
    | some d => !(looksOf all j).contains d && dstOf all j != some d))

/-- The floating operations still yield what they did. -/
def Stable (M : Mach) (all : Array Oper) (fl : List Nat) (env : Env) (ctx : Ctx) : Prop :=
  ∀ j, j ∈ fl → ∃ o u, all[j]? = some o ∧ (∀ d, o.dst = some d → look env d = some u) ∧ QY M all o env ctx u

/-- ef: the effects carried out so far; D: all that is carried out (in thought). -/
inductive V (M : Mach) (all : Array Oper) (an : List (List Nat)) (K : Env → Ctx → Prop) : List Nat → List Nat → Env → Ctx → Prop where
  | fin {ef D : List Nat} {env : Env} {ctx : Ctx} : (List.range all.size).all (fun i => D.contains i) = true → K env ctx → V M all an K ef D env ctx
  | q {ef D : List Nat} {env : Env} {ctx : Ctx} {o : Oper} {v : Value} (k : Nat) : all[k]? = some o → qOkB all an k D = true → QY M all o env ctx v → V M all an K ef (k :: D) (putE o.dst v env) ctx → V M all an K ef D env ctx
  | e {ef D : List Nat} {env : Env} {ctx : Ctx} (C : List Nat) (o : Nat → Oper) (R : Nat → Value → Ctx → Prop) (fl : Nat → List Nat) : eOkB all an C D = true →
      (∀ c, c ∈ C → all[c]? = some (o c) ∧ EY M all (o c) env ctx (R c) ∧ cOkB all an ef (fl c) c D = true ∧ ∀ v ctx', R c v ctx' → Stable M all (fl c) env ctx') →
      (∀ c v ctx', c ∈ C → R c v ctx' → V M all an K (c :: ef) (c :: D) (putE (o c).dst v env) ctx') → V M all an K ef D env ctx

theorem V.e1 {M : Mach} {all : Array Oper} {an : List (List Nat)} {K : Env → Ctx → Prop} {ef D : List Nat} {env : Env} {ctx : Ctx} {o : Oper} {R : Value → Ctx → Prop} (c : Nat) (fl : List Nat) (ho : all[c]? = some o)
    (h1 : eOkB all an [c] D = true) (h2 : cOkB all an ef fl c D = true) (hE : EY M all o env ctx R)
    (hn : ∀ v ctx', R v ctx' → Stable M all fl env ctx' ∧ V M all an K (c :: ef) (c :: D) (putE o.dst v env) ctx') : V M all an K ef D env ctx := by
  refine .e [c] (fun _ => o) (fun _ => R) (fun _ => fl) h1 (fun c' hc => ?_) (fun c' v ctx' hc hR => ?_)
  · obtain rfl := List.mem_singleton.1 hc
    exact ⟨ho, hE, h2, fun v ctx' hR => (hn v ctx' hR).1⟩
  · obtain rfl := List.mem_singleton.1 hc
    exact (hn v ctx' hR).2

section
variable {M : Mach} {all : Array Oper} {an : List (List Nat)} {K : Env → Ctx → Prop} {ef D : List Nat} {env : Env} {ctx : Ctx} {v : Value} {d : Tmp} {op : Op} {ty : TypeId} {pos : String} {aft : Array Edge} {g : Option (Nat × Bool)}
theorem V.qs (k : Nat) (ho : all[k]? = some ⟨some d, op, ty, pos, aft, g⟩) (hb : qOkB all an k D = true) (h : QY M all ⟨some d, op, ty, pos, aft, g⟩ env ctx v) (hn : V M all an K ef (k :: D) ((d, v) :: env) ctx) : V M all an K ef D env ctx := V.q k ho hb h hn
theorem V.e1s {R : Value → Ctx → Prop} (c : Nat) (fl : List Nat) (ho : all[c]? = some ⟨some d, op, ty, pos, aft, g⟩) (h1 : eOkB all an [c] D = true) (h2 : cOkB all an ef fl c D = true) (hE : EY M all ⟨some d, op, ty, pos, aft, g⟩ env ctx R)
    (hn : ∀ v ctx', R v ctx' → Stable M all fl env ctx' ∧ V M all an K (c :: ef) (c :: D) ((d, v) :: env) ctx') : V M all an K ef D env ctx := V.e1 c fl ho h1 h2 hE hn
theorem V.e1n {R : Value → Ctx → Prop} (c : Nat) (fl : List Nat) (ho : all[c]? = some ⟨none, op, ty, pos, aft, g⟩) (h1 : eOkB all an [c] D = true) (h2 : cOkB all an ef fl c D = true) (hE : EY M all ⟨none, op, ty, pos, aft, g⟩ env ctx R)
    (hn : ∀ v ctx', R v ctx' → Stable M all fl env ctx' ∧ V M all an K (c :: ef) (c :: D) env ctx') : V M all an K ef D env ctx := V.e1 c fl ho h1 h2 hE hn
end

theorem V.e2 {M : Mach} {all : Array Oper} {an : List (List Nat)} {K : Env → Ctx → Prop} {ef D : List Nat} {env : Env} {ctx : Ctx} {o1 o2 : Oper} {R1 R2 : Value → Ctx → Prop} (c1 c2 : Nat) (fl1 fl2 : List Nat) (hne : Nat.beq c2 c1 = false)
    (h1 : eOkB all an [c1, c2] D = true) (ho1 : all[c1]? = some o1) (ho2 : all[c2]? = some o2) (g1 : cOkB all an ef fl1 c1 D = true) (g2 : cOkB all an ef fl2 c2 D = true) (hE1 : EY M all o1 env ctx R1) (hE2 : EY M all o2 env ctx R2)
    (hn1 : ∀ v ctx', R1 v ctx' → Stable M all fl1 env ctx' ∧ V M all an K (c1 :: ef) (c1 :: D) (putE o1.dst v env) ctx')
    (hn2 : ∀ v ctx', R2 v ctx' → Stable M all fl2 env ctx' ∧ V M all an K (c2 :: ef) (c2 :: D) (putE o2.dst v env) ctx') : V M all an K ef D env ctx := by
  have hne' : c2 ≠ c1 := Nat.ne_of_beq_eq_false hne
  refine .e [c1, c2] (fun c => if c = c1 then o1 else o2) (fun c => if c = c1 then R1 else R2) (fun c => if c = c1 then fl1 else fl2) h1 (fun c' hc => ?_) (fun c' v ctx' hc hR => ?_)
  · rcases List.mem_cons.1 hc with rfl | hc
    · simp only [if_true]; exact ⟨ho1, hE1, g1, fun v ctx' hR => (hn1 v ctx' hR).1⟩
    · obtain rfl := List.mem_singleton.1 hc
      simp only [if_neg hne']; exact ⟨ho2, hE2, g2, fun v ctx' hR => (hn2 v ctx' hR).1⟩
  · rcases List.mem_cons.1 hc with rfl | hc
    · simp only [if_true] at hR ⊢; exact (hn1 v ctx' hR).2
    · obtain rfl := List.mem_singleton.1 hc
      simp only [if_neg hne'] at hR ⊢; exact (hn2 v ctx' hR).2

structure Sim (M : Mach) (all : Array Oper) (an : List (List Nat)) (ef D : List Nat) (env : Env) (ctx : Ctx) (listed : Array Bool) (a : Act) (w : World) : Prop where
  inv : Inv M.B M.own ctx w
  lsz : listed.size = all.size
  df : a.defers = []
  sz : a.tmps.size = M.n
  closed : ∀ i, listed.getD i false = true → ∀ j, j ∈ an.getD i [] → listed.getD j false = true
  sub : ∀ i, listed.getD i false = true → i ∈ D
  eff : ∀ i, i ∈ ef → listed.getD i false = true
  pend : ∀ i, i ∈ D → listed.getD i false = false → ∃ o u, all[i]? = some o ∧ QY M all o env ctx u ∧ ∀ d, o.dst = some d → look env d = some u
  pp : ∀ i j, i ∈ D → j ∈ D → listed.getD i false = false → listed.getD j false = false → ∀ d, dstOf all j = some d → d ∈ looksOf all i → j ∈ an.getD i []
  dd : ∀ i j, i ∈ D → j ∈ D → i ≠ j → listed.getD i false = false → listed.getD j false = false → ∀ d, dstOf all i = some d → dstOf all j ≠ some d
  ag : ∀ t v, look env t = some v → (∀ i, i ∈ D → listed.getD i false = false → dstOf all i ≠ some t) → a.tmps[t]? = some v

theorem QY.env {M : Mach} {all : Array Oper} {o : Oper} {env env' : Env} {ctx : Ctx} {v : Value} (h : QY M all o env ctx v) (he : ∀ t, t ∈ o.looksAt all → look env' t = look env t) : QY M all o env' ctx v :=
  fun a w hr hi => h a w ⟨hr.df, hr.sz, fun t v ht hv => hr.ag t v ht (by rw [he t ht]; exact hv)⟩ hi

theorem look_putE {dst : Option Tmp} {v : Value} {env : Env} {t : Tmp} (h : ∀ d, dst = some d → d ≠ t) : look (putE dst v env) t = look env t := by
  cases dst with
  | none => rfl
  | some d => simp only [putE, look_cons]; rw [if_neg (h d rfl)]

theorem looksOf_eq {all : Array Oper} {i : Nat} {o : Oper} (h : all[i]? = some o) : looksOf all i = o.looksAt all := by simp [looksOf, h]
theorem dstOf_eq {all : Array Oper} {i : Nat} {o : Oper} (h : all[i]? = some o) : dstOf all i = o.dst := by simp [dstOf, h]

theorem listed_set {listed : Array Bool} {i j : Nat} (hi : i < listed.size) : (listed.setIfInBounds i true).getD j false = if i = j then true else listed.getD j false := by
  by_cases h : i = j
  · subst h; simp [hi]
  · rw [if_neg h]; exact getD_set_ne false h

/-- Whatever comes up next keeps the two in step. -/
theorem V.step {M : Mach} {all : Array Oper} {an : List (List Nat)} {K : Env → Ctx → Prop} (han : anB all an = true) (hdst : all.toList.all (dstB M.n) = true) {ef D : List Nat} {env : Env} {ctx : Ctx} (hV : V M all an K ef D env ctx) :
    ∀ (listed : Array Bool) (a : Act) (w : World), Sim M all an ef D env ctx listed a w → ∀ i o, all[i]? = some o → listed.getD i false = false → (∀ p, p ∈ preds o → listed.getD p false = true) →
      wpOp M.P all noQ i (fun a' w' => ∃ ef' D' env' ctx', V M all an K ef' D' env' ctx' ∧ Sim M all an ef' D' env' ctx' (listed.setIfInBounds i true) a' w') a w := by
  -- the ancestors of what may come up have come up
  have hanc : ∀ (listed : Array Bool), (∀ i, listed.getD i false = true → ∀ j, j ∈ an.getD i [] → listed.getD j false = true) → ∀ i o, all[i]? = some o → (∀ p, p ∈ preds o → listed.getD p false = true) → ∀ j, j ∈ an.getD i [] → listed.getD j false = true := by
    intro listed hc i o ho hp j hj
    obtain ⟨p, hpp, hpj⟩ := (anB_spec han ho).2 j hj
    rcases hpj with rfl | hpj
    · exact hp _ hpp
    · exact hc p (hp p hpp) j hpj
  -- an operation that is pending
  have caseA : ∀ {ef D : List Nat} {env : Env} {ctx : Ctx}, V M all an K ef D env ctx → ∀ (listed : Array Bool) (a : Act) (w : World), Sim M all an ef D env ctx listed a w → ∀ i o, all[i]? = some o → listed.getD i false = false → (∀ p, p ∈ preds o → listed.getD p false = true) → i ∈ D →
      wpOp M.P all noQ i (fun a' w' => ∃ ef' D' env' ctx', V M all an K ef' D' env' ctx' ∧ Sim M all an ef' D' env' ctx' (listed.setIfInBounds i true) a' w') a w := by
    intro ef D env ctx hV listed a w S i o ho hun hp hiD
    have hal := hanc listed S.closed i o ho hp
    have hilt : i < listed.size := by rw [S.lsz]; exact (Array.getElem?_eq_some_iff.1 ho).1
    obtain ⟨o', u, ho', hq, hd⟩ := S.pend i hiD hun
    rw [ho] at ho'
    obtain rfl := Option.some.inj ho'
    have hdn : ∀ d, o.dst = some d → d < M.n := dstB_lt (List.all_eq_true.1 hdst o (by
      obtain ⟨h1, h2⟩ := Array.getElem?_eq_some_iff.1 ho
      rw [← h2]; exact Array.getElem_mem_toList h1))
    have hrep : RepOn M.n (o.looksAt all) env a := ⟨S.df, S.sz, fun t v ht hv => S.ag t v hv fun j hj hjun hjd => by
      have := S.pp i j hiD hj hun hjun t hjd (by rw [looksOf_eq ho]; exact ht)
      rw [hal j this] at hjun; cases hjun⟩
    -- what stands behind it
    have hnext : ∀ w', Same w w' → ∃ ef' D' env' ctx', V M all an K ef' D' env' ctx' ∧ Sim M all an ef' D' env' ctx' (listed.setIfInBounds i true) (a.put o.dst u) w' := by
      intro w' hs
      refine ⟨ef, D, env, ctx, hV, ⟨S.inv.same hs, by simp [S.lsz], ?_, ?_, ?_, ?_, ?_, ?_, ?_, ?_, ?_⟩⟩
      · cases hdd : o.dst <;> simp [Act.put, S.df]
      · cases hdd : o.dst <;> simp [Act.put, S.sz]
      · intro k hk j hj
        rw [listed_set hilt] at hk ⊢
        by_cases hij : i = j
        · rw [if_pos hij]
        · rw [if_neg hij]
          by_cases hik : i = k
          · subst hik; exact hal j hj
          · rw [if_neg hik] at hk; exact S.closed k hk j hj
      · intro k hk
        rw [listed_set hilt] at hk
        by_cases hik : i = k
        · subst hik; exact hiD
        · rw [if_neg hik] at hk; exact S.sub k hk
      · intro k hk
        rw [listed_set hilt]
        split
        · rfl
        · exact S.eff k hk
      · intro k hk hku
        rw [listed_set hilt] at hku
        by_cases hik : i = k
        · rw [if_pos hik] at hku; cases hku
        · rw [if_neg hik] at hku; exact S.pend k hk hku
      · intro k j hk hj hku hju
        rw [listed_set hilt] at hku hju
        by_cases hik : i = k
        · rw [if_pos hik] at hku; cases hku
        · rw [if_neg hik] at hku
          by_cases hij : i = j
          · rw [if_pos hij] at hju; cases hju
          · rw [if_neg hij] at hju; exact S.pp k j hk hj hku hju
      · intro k j hk hj hkj hku hju
        rw [listed_set hilt] at hku hju
        by_cases hik : i = k
        · rw [if_pos hik] at hku; cases hku
        · rw [if_neg hik] at hku
          by_cases hij : i = j
          · rw [if_pos hij] at hju; cases hju
          · rw [if_neg hij] at hju; exact S.dd k j hk hj hkj hku hju
      · intro t v hv hno
        by_cases ht : o.dst = some t
        · have h1 := hd t ht
          rw [h1] at hv
          obtain rfl := Option.some.inj hv
          simp [Act.put, ht, S.sz, hdn t ht]
        · have h0 : a.tmps[t]? = some v := S.ag t v hv fun j hj hju hjd => by
            by_cases hij : i = j
            · subst hij; rw [dstOf_eq ho] at hjd; exact ht hjd
            · exact hno j hj (by rw [listed_set hilt, if_neg hij]; exact hju) hjd
          cases hdd : o.dst with
          | none => simpa [Act.put, hdd] using h0
          | some d =>
            have hne : d ≠ t := fun e => ht (by rw [hdd, e])
            simp only [Act.put]
            rw [Array.getElem?_setIfInBounds_ne hne]
            exact h0
    unfold wpOp
    simp only [ho]
    rcases hq a w hrep S.inv with ⟨hw, hqq⟩ | ⟨hw, rfl⟩
    · rw [if_pos hw]
      exact .inl (Oper.wp_mono2 (fun _ _ h => h) (quiet_wp hqq fun w' hs => hnext w' hs))
    · rw [if_neg (by simp [hw])]
      exact hnext w (Same.refl w)
  induction hV with
  | fin hall hK =>
    intro listed a w S i o ho hun hp
    have hilt : i < all.size := (Array.getElem?_eq_some_iff.1 ho).1
    exact caseA (.fin hall hK) listed a w S i o ho hun hp (List.contains_iff_mem.1 (List.all_eq_true.1 hall i (List.mem_range.2 hilt)))
  | @q ef D env ctx ok v k hk hok hq hV ih =>
    intro listed a w S i o ho hun hp
    by_cases hiD : i ∈ D
    · exact caseA (.q k hk hok hq hV) listed a w S i o ho hun hp hiD
    · simp only [qOkB, Bool.and_eq_true, Bool.not_eq_true'] at hok
      obtain ⟨⟨hkD, hself⟩, hdep⟩ := hok
      have hkD' : k ∉ D := fun hm => by rw [List.contains_iff_mem.2 hm] at hkD; cases hkD
      have hself' : ∀ d, ok.dst = some d → d ∉ looksOf all k ∧ ∀ j, j ∈ D → d ∉ looksOf all j ∧ dstOf all j ≠ some d := by
        intro d hd
        rw [dstOf_eq hk, hd] at hself
        simp only [Bool.and_eq_true, Bool.not_eq_true'] at hself
        refine ⟨(fun hm => by rw [List.contains_iff_mem.2 hm] at hself; cases hself.1), fun j hj => ?_⟩
        have := List.all_eq_true.1 hself.2 j hj
        simp only [Bool.and_eq_true, Bool.not_eq_true', bne_iff_ne, ne_eq] at this
        exact ⟨(fun hm => by rw [List.contains_iff_mem.2 hm] at this; cases this.1), this.2⟩
      have hdep' : ∀ j, j ∈ D → ∀ d, dstOf all j = some d → d ∈ looksOf all k → j ∈ an.getD k [] := by
        intro j hj d hd hm
        have := List.all_eq_true.1 hdep j hj
        simp only [hd, Bool.or_eq_true, Bool.not_eq_true'] at this
        rcases this with h | h
        · rw [List.contains_iff_mem.2 hm] at h; cases h
        · exact List.contains_iff_mem.1 h
      have hkun : listed.getD k false = false := by
        cases h : listed.getD k false with
        | false => rfl
        | true => exact absurd (S.sub k h) hkD'
      refine ih listed a w ⟨S.inv, S.lsz, S.df, S.sz, S.closed, fun j hj => List.mem_cons_of_mem _ (S.sub j hj), S.eff, ?_, ?_, ?_, ?_⟩ i o ho hun hp
      · intro j hj hju
        rcases List.mem_cons.1 hj with rfl | hj
        · refine ⟨ok, v, hk, hq.env fun t ht => look_putE fun d hd e => ?_, fun d hd => by simp [putE, hd, look_cons]⟩
          subst e
          exact (hself' d hd).1 (by rw [looksOf_eq hk]; exact ht)
        · obtain ⟨oj, u, hoj, hqj, hdj⟩ := S.pend j hj hju
          refine ⟨oj, u, hoj, hqj.env fun t ht => look_putE fun d hd e => ?_, fun d hd => ?_⟩
          · subst e
            exact ((hself' d hd).2 j hj).1 (by rw [looksOf_eq hoj]; exact ht)
          · rw [look_putE fun d' hd' e => ((hself' d' hd').2 j hj).2 (by rw [dstOf_eq hoj, hd, e])]
            exact hdj d hd
      · intro x y hx hy hxu hyu d hd hm
        by_cases hxk : x = k
        · subst hxk
          by_cases hyk : y = x
          · subst hyk
            exact absurd hm (hself' d (by rw [← dstOf_eq hk]; exact hd)).1
          · exact hdep' y ((List.mem_cons.1 hy).resolve_left hyk) d hd hm
        · have hx2 := (List.mem_cons.1 hx).resolve_left hxk
          by_cases hyk : y = k
          · subst hyk
            exact absurd hm ((hself' d (by rw [← dstOf_eq hk]; exact hd)).2 x hx2).1
          · exact S.pp x y hx2 ((List.mem_cons.1 hy).resolve_left hyk) hxu hyu d hd hm
      · intro x y hx hy hxy hxu hyu d hd
        by_cases hxk : x = k
        · subst hxk
          exact ((hself' d (by rw [← dstOf_eq hk]; exact hd)).2 y ((List.mem_cons.1 hy).resolve_left fun e => hxy e.symm)).2
        · have hx2 := (List.mem_cons.1 hx).resolve_left hxk
          by_cases hyk : y = k
          · subst hyk
            intro hd2
            exact ((hself' d (by rw [← dstOf_eq hk]; exact hd2)).2 x hx2).2 hd
          · exact S.dd x y hx2 ((List.mem_cons.1 hy).resolve_left hyk) hxy hxu hyu d hd
      · intro t u hu hno
        have hne : ∀ d, ok.dst = some d → d ≠ t := fun d hd e => hno k (List.mem_cons_self ..) hkun (by rw [dstOf_eq hk, hd, e])
        rw [look_putE hne] at hu
        exact S.ag t u hu fun j hj hju => hno j (List.mem_cons_of_mem _ hj) hju
  | @e ef D env ctx C oc R fl0 hok hC hV ih =>
    intro listed a w S i o ho hun hp
    by_cases hiD : i ∈ D
    · exact caseA (.e C oc R fl0 hok hC hV) listed a w S i o ho hun hp hiD
    · have hal := hanc listed S.closed i o ho hp
      have hilt' : i < all.size := (Array.getElem?_eq_some_iff.1 ho).1
      have hilt : i < listed.size := by rw [S.lsz]; exact hilt'
      simp only [eOkB, Bool.and_eq_true] at hok
      obtain ⟨⟨_, hCD⟩, hcov⟩ := hok
      have hiC : i ∈ C := by
        have := List.all_eq_true.1 hcov i (List.mem_range.2 hilt')
        simp only [Bool.or_eq_true] at this
        rcases this with (h | h) | h
        · exact absurd (List.contains_iff_mem.1 h) hiD
        · exact List.contains_iff_mem.1 h
        · obtain ⟨j, hj, hjC⟩ := List.any_eq_true.1 h
          have h1 := hal j hj
          have h2 := S.sub j h1
          have h3 := List.all_eq_true.1 hCD j (List.contains_iff_mem.1 hjC)
          simp only [Bool.and_eq_true, Bool.not_eq_true'] at h3
          rw [List.contains_iff_mem.2 h2] at h3
          cases h3.1
      obtain ⟨ho', hE, hc, hnext⟩ := hC i hiC
      have hVn := hV i
      generalize oc i = oi at *
      generalize fl0 i = fl at *
      rw [ho] at ho'
      obtain rfl := Option.some.inj ho'
      have hc' : ∀ j, j ∈ D → listed.getD j false = false → j ∈ fl ∧ (∀ d, dstOf all j = some d → d ∉ looksOf all i) ∧ ∀ d, o.dst = some d → d ∉ looksOf all j ∧ dstOf all j ≠ some d := by
        intro j hj hju
        have h := List.all_eq_true.1 hc j hj
        simp only [Bool.or_eq_true, Bool.and_eq_true] at h
        rcases h with h | ⟨⟨h1, h2⟩, h3⟩
        · rw [hal j (List.contains_iff_mem.1 h)] at hju; cases hju
        · refine ⟨?_, fun d hd => ?_, fun d hd => ?_⟩
          · rcases h1 with h1 | h1
            · rw [S.eff j (List.contains_iff_mem.1 h1)] at hju; cases hju
            · exact List.contains_iff_mem.1 h1
          · rw [hd] at h2
            simp only [Bool.not_eq_true'] at h2
            exact fun hm => by rw [List.contains_iff_mem.2 hm] at h2; cases h2
          · rw [dstOf_eq ho, hd] at h3
            simp only [Bool.and_eq_true, Bool.not_eq_true', bne_iff_ne, ne_eq] at h3
            exact ⟨(fun hm => by rw [List.contains_iff_mem.2 hm] at h3; cases h3.1), h3.2⟩
      have hdn : ∀ d, o.dst = some d → d < M.n := dstB_lt (List.all_eq_true.1 hdst o (by
        obtain ⟨h1, h2⟩ := Array.getElem?_eq_some_iff.1 ho
        rw [← h2]; exact Array.getElem_mem_toList h1))
      have hrep : RepOn M.n (o.looksAt all) env a := ⟨S.df, S.sz, fun t v ht hv => S.ag t v hv fun j hj hjun hjd =>
        (hc' j hj hjun).2.1 t hjd (by rw [looksOf_eq ho]; exact ht)⟩
      obtain ⟨hw, hwp⟩ := hE a w hrep S.inv
      unfold wpOp
      simp only [ho]
      rw [if_pos hw]
      refine .inl (Oper.wp_mono2 ?_ hwp)
      rintro a' w' ⟨v, ctx', rfl, hinv, hR⟩
      have hst := hnext v ctx' hR
      have hV' := hVn v ctx' hiC hR
      refine ⟨i :: ef, i :: D, putE o.dst v env, ctx', hV', ⟨hinv, by simp [S.lsz], ?_, ?_, ?_, ?_, ?_, ?_, ?_, ?_, ?_⟩⟩
      · cases hdd : o.dst <;> simp [Act.put, S.df]
      · cases hdd : o.dst <;> simp [Act.put, S.sz]
      · intro k hk j hj
        rw [listed_set hilt] at hk ⊢
        by_cases hij : i = j
        · rw [if_pos hij]
        · rw [if_neg hij]
          by_cases hik : i = k
          · subst hik; exact hal j hj
          · rw [if_neg hik] at hk; exact S.closed k hk j hj
      · intro k hk
        rw [listed_set hilt] at hk
        by_cases hik : i = k
        · subst hik; exact List.mem_cons_self ..
        · rw [if_neg hik] at hk; exact List.mem_cons_of_mem _ (S.sub k hk)
      · intro k hk
        rw [listed_set hilt]
        rcases List.mem_cons.1 hk with rfl | hk
        · rw [if_pos rfl]
        · split
          · rfl
          · exact S.eff k hk
      · intro k hk hku
        rw [listed_set hilt] at hku
        by_cases hik : i = k
        · rw [if_pos hik] at hku; cases hku
        · rw [if_neg hik] at hku
          rcases List.mem_cons.1 hk with rfl | hk
          · exact absurd rfl hik
          · obtain ⟨ok, u, hok, hdk, hqk⟩ := hst k (hc' k hk hku).1
            have hcc := (hc' k hk hku).2.2
            refine ⟨ok, u, hok, hqk.env fun t ht => look_putE fun d hd e => ?_, fun d hd => ?_⟩
            · subst e; exact (hcc d hd).1 (by rw [looksOf_eq hok]; exact ht)
            · rw [look_putE fun d' hd' e => (hcc d' hd').2 (by rw [dstOf_eq hok, hd, e])]
              exact hdk d hd
      · intro k j hk hj hku hju
        rw [listed_set hilt] at hku hju
        by_cases hik : i = k
        · rw [if_pos hik] at hku; cases hku
        · rw [if_neg hik] at hku
          by_cases hij : i = j
          · rw [if_pos hij] at hju; cases hju
          · rw [if_neg hij] at hju
            exact S.pp k j ((List.mem_cons.1 hk).resolve_left fun e => hik e.symm) ((List.mem_cons.1 hj).resolve_left fun e => hij e.symm) hku hju
      · intro k j hk hj hkj hku hju
        rw [listed_set hilt] at hku hju
        by_cases hik : i = k
        · rw [if_pos hik] at hku; cases hku
        · rw [if_neg hik] at hku
          by_cases hij : i = j
          · rw [if_pos hij] at hju; cases hju
          · rw [if_neg hij] at hju
            exact S.dd k j ((List.mem_cons.1 hk).resolve_left fun e => hik e.symm) ((List.mem_cons.1 hj).resolve_left fun e => hij e.symm) hkj hku hju
      · intro t u hu hno
        by_cases ht : o.dst = some t
        · simp only [putE, ht, look_cons, if_true, Option.some.injEq] at hu
          subst hu
          simp [Act.put, ht, S.sz, hdn t ht]
        · have hne : ∀ d, o.dst = some d → d ≠ t := fun d hd e => ht (by rw [hd, e])
          rw [look_putE hne] at hu
          have h0 : a.tmps[t]? = some u := S.ag t u hu fun j hj hju hjd => by
            by_cases hij : i = j
            · subst hij; rw [dstOf_eq ho] at hjd; exact ht hjd
            · exact hno j (List.mem_cons_of_mem _ hj) (by rw [listed_set hilt, if_neg hij]; exact hju) hjd
          cases hdd : o.dst with
          | none => simpa [Act.put, hdd] using h0
          | some d =>
            simp only [Act.put]
            rw [Array.getElem?_setIfInBounds_ne (hne d hdd)]
            exact h0

/-- When nothing is left all is in step. -/
theorem V.done {M : Mach} {all : Array Oper} {an : List (List Nat)} {K : Env → Ctx → Prop} {ef D : List Nat} {env : Env} {ctx : Ctx} {listed : Array Bool} {a : Act} {w : World}
    (hV : V M all an K ef D env ctx) (S : Sim M all an ef D env ctx listed a w) (hall : ∀ i, i < all.size → listed.getD i false = true) : lift M (normE K) .normal a w := by
  have hD : ∀ i, i < all.size → i ∈ D := fun i hi => S.sub i (hall i hi)
  cases hV with
  | fin _ hK =>
    refine ⟨env, ctx, ⟨S.df, S.sz, fun t v hv => S.ag t v hv fun i _ hiu hid => ?_⟩, S.inv, hK⟩
    have hilt : i < all.size := by
      rcases Nat.lt_or_ge i all.size with h | h
      · exact h
      · simp [dstOf, Array.getElem?_eq_none h] at hid
    rw [hall i hilt] at hiu; cases hiu
  | q k hk hok _ _ =>
    simp only [qOkB, Bool.and_eq_true, Bool.not_eq_true'] at hok
    have := hD k (Array.getElem?_eq_some_iff.1 hk).1
    rw [List.contains_iff_mem.2 this] at hok
    cases hok.1.1
  | e C _ _ _ hok _ _ =>
    simp only [eOkB, Bool.and_eq_true, Bool.not_eq_true'] at hok
    obtain ⟨⟨h1, h2⟩, _⟩ := hok
    cases C with
    | nil => simp at h1
    | cons c C =>
      have h3 := List.all_eq_true.1 h2 c (List.mem_cons_self ..)
      simp only [Bool.and_eq_true, Bool.not_eq_true'] at h3
      have hlt : c < all.size := Nat.lt_of_lt_of_le (Nat.lt_succ_self _) (Nat.le_of_ble_eq_true h3.2)
      rw [List.contains_iff_mem.2 (hD c hlt)] at h3
      cases h3.1

def missing (listed : Array Bool) : Nat := (listed.toList.filter fun b => !b).length

theorem missing_set {listed : Array Bool} {i : Nat} (hi : i < listed.size) (h : listed.getD i false = false) : missing (listed.setIfInBounds i true) + 1 = missing listed := by
  obtain ⟨l⟩ := listed
  simp only [missing, List.setIfInBounds_toArray]
  simp only [List.size_toArray] at hi
  have h' : l[i] = false := by simpa [Array.getD, hi] using h
  clear h
  induction l generalizing i with
  | nil => simp at hi
  | cons b l ih =>
    cases i with
    | zero => simp only [List.getElem_cons_zero] at h'; subst h'; simp
    | succ i =>
      simp only [List.getElem_cons_succ] at h'
      have := ih (i := i) (by simpa using hi) h'
      simp only [List.set_cons_succ, List.filter_cons]
      cases b <;> simp <;> omega

theorem noQ_mono {P : Program} {all : Array Oper} {i : Nat} {K : Act → World → Prop} {a : Act} {w : World} {Q' : Exit → Act → World → Prop} (h : wpOp P all noQ i K a w) : wpOp P all Q' i K a w := by
  unfold wpOp at *
  split
  · rename_i ho; simpa [ho] using h
  · rename_i o ho
    simp only [ho] at h
    split
    · rename_i hw
      rw [if_pos hw] at h
      rcases h with h | ⟨_, _, _, hf⟩
      · exact .inl (Oper.wp_mono2 (fun _ _ h => h) h)
      · exact hf.elim
    · rename_i hw; rw [if_neg hw] at h; exact h

theorem V.any {M : Mach} {all : Array Oper} {an : List (List Nat)} {K : Env → Ctx → Prop} (han : anB all an = true) (hdst : all.toList.all (dstB M.n) = true) :
    ∀ (fuel : Nat) (listed : Array Bool) (a : Act) (w : World), missing listed ≤ fuel → (∃ ef D env ctx, V M all an K ef D env ctx ∧ Sim M all an ef D env ctx listed a w) → wpAny M.P .any all (lift M (normE K)) fuel listed a w := by
  -- nothing may come up: all has
  have hdone : ∀ (listed : Array Bool) (a : Act) (w : World), (∃ ef D env ctx, V M all an K ef D env ctx ∧ Sim M all an ef D env ctx listed a w) → Region.ready .any all listed = [] → lift M (normE K) .normal a w := by
    rintro listed a w ⟨ef, D, env, ctx, hV, S⟩ hr
    refine hV.done S ?_
    intro i
    induction i using Nat.strongRecOn with
    | _ i ih =>
      intro hi
      cases h : listed.getD i false with
      | true => rfl
      | false =>
        exfalso
        have ho : all[i]? = some all[i] := Array.getElem?_eq_getElem hi
        have hmem : i ∈ Region.ready .any all listed := mem_ready.2 ⟨by
          have hil : i < listed.size := by rw [S.lsz]; exact hi
          simpa [Array.getD, hil] using h, all[i], ho, fun e he hb => by
          have hlt := (anB_spec han ho).1 e.on (List.mem_map.2 ⟨e, List.mem_filter.2 ⟨by simpa using he, hb⟩, rfl⟩)
          exact ih e.on hlt (Nat.lt_trans hlt hi)⟩
        rw [hr] at hmem; cases hmem
  intro fuel
  induction fuel with
  | zero =>
    rintro listed a w hm ⟨ef, D, env, ctx, hV, S⟩
    have hr : Region.ready .any all listed = [] := by
      cases h : Region.ready .any all listed with
      | nil => rfl
      | cons i r =>
        exfalso
        have hi : i ∈ Region.ready .any all listed := by rw [h]; exact List.mem_cons_self ..
        obtain ⟨h0, o, ho, _⟩ := mem_ready.1 hi
        have hil : i < listed.size := by rw [S.lsz]; exact (Array.getElem?_eq_some_iff.1 ho).1
        have := missing_set hil (by simpa [Array.getD, hil] using h0)
        omega
    exact ⟨hr, hdone listed a w ⟨ef, D, env, ctx, hV, S⟩ hr⟩
  | succ fuel ih =>
    rintro listed a w hm ⟨ef, D, env, ctx, hV, S⟩
    refine ⟨fun hr => hdone listed a w ⟨ef, D, env, ctx, hV, S⟩ hr, fun i hi => ?_⟩
    obtain ⟨h0, o, ho, hpre⟩ := mem_ready.1 hi
    have hil : i < listed.size := by rw [S.lsz]; exact (Array.getElem?_eq_some_iff.1 ho).1
    have h0' : listed.getD i false = false := by simpa [Array.getD, hil] using h0
    refine wpOp_mono ?_ (noQ_mono (V.step han hdst hV listed a w S i o ho h0' fun p hp => ?_))
    · rintro a' w' h
      exact ih _ a' w' (by have := missing_set hil h0'; omega) h
    · obtain ⟨e, he, rfl⟩ := List.mem_map.1 hp
      obtain ⟨he1, he2⟩ := List.mem_filter.1 he
      exact hpre e (by simpa using he1) he2

theorem W_draw {M : Mach} {id : Nat} {l : List Oper} {Q : Exit → Env → Ctx → Prop} {env : Env} {ctx : Ctx} (an : List (List Nat)) (hm : M.P.follows .mixedOrders = true) (han : anB l.toArray an = true) (hdst : l.all (dstB M.n) = true)
    (h : V M l.toArray an (Q .normal) [] [] env ctx) : W M (.region id l.toArray true) Q env ctx := by
  intro a w hr hi
  refine wp_mono (wp_region_any hm (V.any (K := Q .normal) han (by simpa using hdst) _ _ _ _ ?_ ⟨[], [], env, ctx, h, ?_⟩)) (lift_mono ?_)
  · simp only [missing, Array.toList_replicate]
    exact Nat.le_trans (List.length_filter_le _ _) (by simp)
  · refine ⟨hi.same ⟨fun _ _ => rfl, Nat.le_refl _, rfl, rfl, rfl, Nat.le_succ _⟩, by simp, hr.df, hr.sz, ?_, ?_, ?_, ?_, ?_, ?_, fun t v hv _ => hr.ag t v hv⟩
    · intro i hi'; simp [Array.getD] at hi'
    · intro i hi'; simp [Array.getD] at hi'
    · intro i hi'; cases hi'
    · intro i hi'; cases hi'
    · intro i j hi'; cases hi'
    · intro i j hi'; cases hi'
  · intro e env ctx hq
    cases e <;> first | exact hq | exact hq.elim
end Go.SLD
