/-
  Maps: an object of entries as a list of keys and values.
-/
import Derived.Test.YtbfplncdmbjjhaaGreatCal
set_option linter.unusedSectionVars false
set_option linter.unusedSimpArgs false
set_option linter.unusedVariables false
namespace Go.SL

section
variable {K V : Type} [DecidableEq K]
def mget : List (K × V) → K → Option V
  | [], _ => none
  | (q, u) :: r, p => if p = q then some u else mget r p
def mput : List (K × V) → K → V → List (K × V)
  | [], p, v => [(p, v)]
  | (q, u) :: r, p, v => if p = q then (p, v) :: r else (q, u) :: mput r p v
def mdel : List (K × V) → K → List (K × V)
  | [], _ => []
  | (q, u) :: r, p => if p = q then r else (q, u) :: mdel r p

theorem mget_put (l : List (K × V)) (p q : K) (v : V) : mget (mput l p v) q = if q = p then some v else mget l q := by
  induction l with
  | nil => simp [mput, mget]
  | cons x r ih =>
    obtain ⟨k, u⟩ := x
    simp only [mput]
    by_cases h : p = k
    · subst h
      rw [if_pos rfl]
      simp only [mget]
      by_cases h2 : q = p
      · rw [if_pos h2, if_pos h2]
      · rw [if_neg h2, if_neg h2, if_neg h2]
    · rw [if_neg h]
      simp only [mget, ih]
      by_cases h2 : q = k
      · subst h2; rw [if_pos rfl, if_pos rfl, if_neg (fun e => h e.symm)]
      · rw [if_neg h2, if_neg h2]

def Keys (l : List (K × V)) : Prop := (l.map (·.1)).Nodup

theorem mget_none (l : List (K × V)) (p : K) (h : p ∉ l.map (·.1)) : mget l p = none := by
  induction l with
  | nil => rfl
  | cons x r ih =>
    obtain ⟨k, u⟩ := x
    simp only [List.map_cons, List.mem_cons, not_or] at h
    simp only [mget]
    rw [if_neg h.1, ih h.2]

theorem mget_del (l : List (K × V)) (hk : Keys l) (p q : K) : mget (mdel l p) q = if q = p then none else mget l q := by
  induction l with
  | nil => simp [mdel, mget]
  | cons x r ih =>
    obtain ⟨k, u⟩ := x
    simp only [Keys, List.map_cons, List.nodup_cons] at hk
    simp only [mdel]
    by_cases h : p = k
    · subst h
      rw [if_pos rfl]
      simp only [mget]
      by_cases h2 : q = p
      · subst h2; rw [if_pos rfl, mget_none r q hk.1]
      · rw [if_neg h2, if_neg h2]
    · rw [if_neg h]
      simp only [mget, ih hk.2]
      by_cases h2 : q = k
      · subst h2; rw [if_pos rfl, if_pos rfl, if_neg (fun e => h e.symm)]
      · rw [if_neg h2, if_neg h2]

theorem mem_keys_put (l : List (K × V)) (p q : K) (v : V) : q ∈ (mput l p v).map (·.1) ↔ q = p ∨ q ∈ l.map (·.1) := by
  induction l with
  | nil => simp [mput]
  | cons x r ih =>
    obtain ⟨k, u⟩ := x
    simp only [mput]
    by_cases h : p = k
    · subst h; rw [if_pos rfl]; simp
    · rw [if_neg h]
      simp only [List.map_cons, List.mem_cons, ih]
      constructor
      · rintro (h1 | h1 | h1)
        · exact .inr (.inl h1)
        · exact .inl h1
        · exact .inr (.inr h1)
      · rintro (h1 | h1 | h1)
        · exact .inr (.inl h1)
        · exact .inl h1
        · exact .inr (.inr h1)

theorem Keys.put {l : List (K × V)} (h : Keys l) (p : K) (v : V) : Keys (mput l p v) := by
  induction l with
  | nil => simp [Keys, mput]
  | cons x r ih =>
    obtain ⟨k, u⟩ := x
    simp only [Keys, List.map_cons, List.nodup_cons] at h
    simp only [mput]
    by_cases e : p = k
    · subst e; rw [if_pos rfl]; simpa [Keys] using h
    · rw [if_neg e]
      simp only [Keys, List.map_cons, List.nodup_cons]
      refine ⟨fun hm => ?_, ih h.2⟩
      rcases (mem_keys_put r p k v).1 hm with h1 | h1
      · exact e h1.symm
      · exact h.1 h1

theorem mem_keys_del {l : List (K × V)} {p q : K} (h : q ∈ (mdel l p).map (·.1)) : q ∈ l.map (·.1) := by
  induction l with
  | nil => simp [mdel] at h
  | cons x r ih =>
    obtain ⟨k, u⟩ := x
    simp only [mdel] at h
    by_cases e : p = k
    · rw [if_pos e] at h; simp only [List.map_cons, List.mem_cons]; exact .inr h
    · rw [if_neg e] at h
      simp only [List.map_cons, List.mem_cons] at h ⊢
      exact h.imp id ih

theorem Keys.del {l : List (K × V)} (h : Keys l) (p : K) : Keys (mdel l p) := by
  induction l with
  | nil => simp [Keys, mdel]
  | cons x r ih =>
    obtain ⟨k, u⟩ := x
    simp only [Keys, List.map_cons, List.nodup_cons] at h
    simp only [mdel]
    by_cases e : p = k
    · rw [if_pos e]; exact h.2
    · rw [if_neg e]
      simp only [Keys, List.map_cons, List.nodup_cons]
      exact ⟨fun hm => h.1 (mem_keys_del hm), ih h.2⟩

/-- Where the key stands. -/
def fidx : List (K × V) → K → Option (Nat × V)
  | [], _ => none
  | (q, u) :: r, p => if p = q then some (0, u) else (fidx r p).map fun x => (x.1 + 1, x.2)

theorem fidx_get (l : List (K × V)) (p : K) : mget l p = (fidx l p).map (·.2) := by
  induction l with
  | nil => rfl
  | cons x r ih =>
    obtain ⟨k, u⟩ := x
    simp only [mget, fidx]
    by_cases h : p = k
    · rw [if_pos h, if_pos h]; rfl
    · rw [if_neg h, if_neg h, ih]
      cases fidx r p <;> rfl

def MRep (ek : K → Value) (ev : V → Value) (es : List MapEntry) (l : List (K × V)) : Prop := es.map (fun e => (e.key, e.val)) = l.map fun x => (ek x.1, ev x.2)

structure KeyLaw (P : Program) (T : TypeId) (ek : K → Value) : Prop where
  chk : ∀ b p w, (Instr.checkKey b 10000 T (ek p)).run P w = .ok () w
  fnd : ∀ {V : Type} (ev : V → Value) (es : List MapEntry) (l : List (K × V)) (p : K) (w : World), MRep ek ev es l → (Instr.findKey T (ek p) es).run P w = .ok ((fidx l p).map fun x => (x.1, ev x.2)) w
  same : ∀ p, Instr.sameBits 10000 (ek p) (ek p) = true

theorem MRep.cons {ek : K → Value} {ev : V → Value} {e : MapEntry} {es : List MapEntry} {l : List (K × V)} (h : MRep ek ev (e :: es) l) : ∃ p v r, l = (p, v) :: r ∧ e.key = ek p ∧ e.val = ev v ∧ MRep ek ev es r := by
  cases l with
  | nil => simp [MRep] at h
  | cons x r =>
    simp only [MRep, List.map_cons, List.cons.injEq, Prod.mk.injEq] at h
    exact ⟨x.1, x.2, r, rfl, h.1.1, h.1.2, h.2⟩

theorem MRep.nil {ek : K → Value} {ev : V → Value} {l : List (K × V)} (h : MRep ek ev [] l) : l = [] := by
  cases l with
  | nil => rfl
  | cons x r => simp [MRep] at h

/-- The law of keys that are compared by '=='. -/
theorem KeyLaw.asked {P : Program} {T : TypeId} {ek : K → Value} {fs : Array Field} (hu : ∀ w, (underlying T).run P w = .ok (.struct fs) w) (hc : ∀ b p w, (Instr.checkKey b 10000 T (ek p)).run P w = .ok () w)
    (he : ∀ p q w, (Op.equal T (ek p) (ek q)).run P w = .ok (decide (p = q)) w) (hs : ∀ p, Instr.sameBits 10000 (ek p) (ek p) = true) : KeyLaw P T ek := by
  refine ⟨hc, ?_, hs⟩
  intro V ev es l p w hrep
  have key : ∀ (es : List MapEntry) (l : List (K × V)) (i : Nat) (w : World), MRep ek ev es l → (Instr.findAsking T (ek p) es i).run P w = .ok ((fidx l p).map fun x => (x.1 + i, ev x.2)) w := by
    intro es
    induction es with
    | nil => intro l i w h; rw [h.nil]; simp [Instr.findAsking, fidx]
    | cons e es ih =>
      intro l i w h
      obtain ⟨q, v, r, rfl, h1, h2, h3⟩ := h.cons
      simp only [Instr.findAsking, Sem.run_bind, h1, he, Result.andThen_ok, fidx]
      by_cases e0 : p = q
      · subst e0
        simp [h2]
      · simp only [e0, decide_false, Bool.false_eq_true, if_false, ih r (i + 1) w h3]
        cases fidx r p <;> simp [Nat.add_comm, Nat.add_left_comm]
  cases es with
  | nil =>
    rw [hrep.nil]
    simp [Instr.findKey, Instr.findNow, hu, Result.andThen, fidx]
  | cons e es =>
    have hn : Instr.findNow (.struct fs) (ek p) (e :: es) 0 = none := by simp [Instr.findNow, Instr.sameNow]
    simp only [Instr.findKey, Sem.run_bind, hu, Result.andThen_ok, hn]
    rw [key _ l 0 w hrep]
    cases fidx l p <;> rfl

/-- Keys that are whole numbers. -/
theorem KeyLaw.int {P : Program} {T : TypeId} {k : IntKind} (hu : ∀ w, (underlying T).run P w = .ok (.int k) w) : KeyLaw P T (Value.int k) := by
  refine ⟨fun b p w => ?_, ?_, fun p => by simp [Instr.sameBits]⟩
  · show (Instr.checkKey b (9999 + 1) T (.int k p)).run P w = _
    rw [Instr.checkKey]
    simp [hu, Result.andThen]
  · intro V ev es l p w hrep
    have key : ∀ (es : List MapEntry) (l : List (Int × V)) (i : Nat), MRep (Value.int k) ev es l → Instr.findNow (.int k) (.int k p) es i = some ((fidx l p).map fun x => (x.1 + i, ev x.2)) := by
      intro es
      induction es with
      | nil => intro l i h; rw [h.nil]; simp [Instr.findNow, fidx]
      | cons e es ih =>
        intro l i h
        obtain ⟨q, v, r, rfl, h1, h2, h3⟩ := h.cons
        simp only [Instr.findNow, h1, Instr.sameNow, if_true, fidx]
        by_cases e0 : p = q
        · subst e0
          simp [h2]
        · have : (p == q) = false := by simp [e0]
          simp only [this, e0, if_false, ih r (i + 1) h3]
          cases fidx r p <;> simp [Nat.add_comm, Nat.add_left_comm]
    simp only [Instr.findKey, Sem.run_bind, hu, Result.andThen_ok, key es l 0 hrep, Sem.run_pure]
    cases fidx l p <;> rfl

structure Born (es : List MapEntry) (clock : Nat) : Prop where
  nd : (es.map (·.born)).Nodup
  lt : ∀ e, e ∈ es → e.born < clock

/-- The map of block m holds l. -/
def MapIs (ek : K → Value) (ev : V → Value) (A : Atom) (m : Nat) (l : List (K × V)) : Prop := ∃ es clock, A = [(m, .map es clock)] ∧ MRep ek ev es.toList l ∧ Keys l ∧ Born es.toList clock

theorem MRep.modify {ek : K → Value} {ev : V → Value} {p : K} {v : V} : ∀ {es : List MapEntry} {l : List (K × V)} {i : Nat} {u : V}, MRep ek ev es l → fidx l p = some (i, u) →
    MRep ek ev (es.modify i fun e => { e with key := ek p, val := ev v }) (mput l p v)
  | [], l, i, u, h, hf => by rw [h.nil] at hf; simp [fidx] at hf
  | e :: es, l, i, u, h, hf => by
    obtain ⟨q, u', r, rfl, h1, h2, h3⟩ := h.cons
    simp only [fidx] at hf
    simp only [mput]
    by_cases e0 : p = q
    · rw [if_pos e0] at hf ⊢
      obtain ⟨rfl, rfl⟩ := Prod.mk.inj (Option.some.inj hf)
      simp only [List.modify_zero_cons, MRep, List.map_cons]
      rw [show es.map (fun e => (e.key, e.val)) = r.map (fun x => (ek x.1, ev x.2)) from h3]
    · rw [if_neg e0] at hf ⊢
      cases hr : fidx r p with
      | none => simp [hr] at hf
      | some y =>
        obtain ⟨j, u2⟩ := y
        simp only [hr, Option.map_some, Option.some.injEq, Prod.mk.injEq] at hf
        obtain ⟨rfl, rfl⟩ := hf
        simp only [List.modify_succ_cons, MRep, List.map_cons]
        have := MRep.modify (v := v) h3 hr
        rw [show List.map (fun e => (e.key, e.val)) (es.modify j fun e => { e with key := ek p, val := ev v }) = (mput r p v).map (fun x => (ek x.1, ev x.2)) from this, h1, h2]

theorem MRep.push {ek : K → Value} {ev : V → Value} {p : K} {v : V} {c : Nat} : ∀ {es : List MapEntry} {l : List (K × V)}, MRep ek ev es l → fidx l p = none → MRep ek ev (es ++ [{ key := ek p, val := ev v, born := c }]) (mput l p v)
  | [], l, h, _ => by rw [h.nil]; simp [MRep, mput]
  | e :: es, l, h, hf => by
    obtain ⟨q, u', r, rfl, h1, h2, h3⟩ := h.cons
    simp only [fidx] at hf
    simp only [mput]
    by_cases e0 : p = q
    · rw [if_pos e0] at hf; cases hf
    · rw [if_neg e0] at hf ⊢
      have hr : fidx r p = none := by cases h : fidx r p <;> simp [h] at hf ⊢
      have := MRep.push (v := v) (c := c) h3 hr
      simp only [MRep, List.cons_append, List.map_cons]
      rw [show List.map (fun e => (e.key, e.val)) (es ++ [{ key := ek p, val := ev v, born := c }]) = (mput r p v).map (fun x => (ek x.1, ev x.2)) from this, h1, h2]

theorem MRep.erase {ek : K → Value} {ev : V → Value} {p : K} : ∀ {es : List MapEntry} {l : List (K × V)} {i : Nat} {u : V}, MRep ek ev es l → fidx l p = some (i, u) → MRep ek ev (es.eraseIdx i) (mdel l p)
  | [], l, i, u, h, hf => by rw [h.nil] at hf; simp [fidx] at hf
  | e :: es, l, i, u, h, hf => by
    obtain ⟨q, u', r, rfl, h1, h2, h3⟩ := h.cons
    simp only [fidx] at hf
    simp only [mdel]
    by_cases e0 : p = q
    · rw [if_pos e0] at hf ⊢
      obtain ⟨rfl, rfl⟩ := Prod.mk.inj (Option.some.inj hf)
      simpa using h3
    · rw [if_neg e0] at hf ⊢
      cases hr : fidx r p with
      | none => simp [hr] at hf
      | some y =>
        obtain ⟨j, u2⟩ := y
        simp only [hr, Option.map_some, Option.some.injEq, Prod.mk.injEq] at hf
        obtain ⟨rfl, rfl⟩ := hf
        simp only [List.eraseIdx_cons_succ, MRep, List.map_cons]
        rw [show List.map (fun e => (e.key, e.val)) (es.eraseIdx j) = (mdel r p).map (fun x => (ek x.1, ev x.2)) from MRep.erase h3 hr, h1, h2]

theorem mdel_none {l : List (K × V)} {p : K} (h : fidx l p = none) : mdel l p = l := by
  induction l with
  | nil => rfl
  | cons x r ih =>
    obtain ⟨q, u⟩ := x
    simp only [fidx] at h
    simp only [mdel]
    by_cases e0 : p = q
    · rw [if_pos e0] at h; cases h
    · rw [if_neg e0] at h ⊢
      rw [ih (by cases h' : fidx r p <;> simp [h'] at h ⊢)]

theorem fidx_lt {l : List (K × V)} {p : K} {i : Nat} {u : V} (h : fidx l p = some (i, u)) : i < l.length := by
  induction l generalizing i u with
  | nil => cases h
  | cons x r ih =>
    obtain ⟨q, u'⟩ := x
    simp only [fidx] at h
    by_cases e0 : p = q
    · rw [if_pos e0] at h; obtain ⟨rfl, rfl⟩ := Prod.mk.inj (Option.some.inj h); simp
    · rw [if_neg e0] at h
      cases hr : fidx r p with
      | none => simp [hr] at h
      | some y =>
        obtain ⟨j, u2⟩ := y
        simp only [hr, Option.map_some, Option.some.injEq, Prod.mk.injEq] at h
        have := ih hr
        simp only [List.length_cons]; omega

theorem MRep.len {ek : K → Value} {ev : V → Value} {es : List MapEntry} {l : List (K × V)} (h : MRep ek ev es l) : es.length = l.length := by
  have := congrArg List.length h
  simpa using this

theorem fidx_key {ek : K → Value} {ev : V → Value} {p : K} : ∀ {es : List MapEntry} {l : List (K × V)} {i : Nat} {u : V}, MRep ek ev es l → fidx l p = some (i, u) → (es[i]?).map (·.key) = some (ek p)
  | [], l, i, u, h, hf => by rw [h.nil] at hf; simp [fidx] at hf
  | e :: es, l, i, u, h, hf => by
    obtain ⟨q, u', r, rfl, h1, h2, h3⟩ := h.cons
    simp only [fidx] at hf
    by_cases e0 : p = q
    · rw [if_pos e0] at hf
      obtain ⟨rfl, rfl⟩ := Prod.mk.inj (Option.some.inj hf)
      subst e0; simp [h1]
    · rw [if_neg e0] at hf
      cases hr : fidx r p with
      | none => simp [hr] at hf
      | some y =>
        obtain ⟨j, u2⟩ := y
        simp only [hr, Option.map_some, Option.some.injEq, Prod.mk.injEq] at hf
        obtain ⟨rfl, rfl⟩ := hf
        simpa using fidx_key h3 hr
end

theorem run_getObj' {P : Program} {w : World} {r : Nat} {es : Array MapEntry} {clock : Nat} (h : w.heap[r]? = some (.map es clock)) : (getObj r).run P w = .ok (.map es clock) w := by
  simp [getObj, Sem.run, h]
theorem run_setObj' {P : Program} {w : World} {r : Nat} {o' : Obj} {es : Array MapEntry} {clock : Nat} (h : w.heap[r]? = some (.map es clock)) : (setObj r o').run P w = .ok () { w with heap := w.heap.setIfInBounds r o' } := by
  simp [setObj, Sem.run, h]

section
variable {K V : Type} [DecidableEq K] {ek : K → Value} {ev : V → Value} {M : Mach} {all : Array Oper} {env : Env} {ctx : Ctx} {dst : Option Tmp} {ty : TypeId} {pos : String} {aft : Array Edge}

theorem Inv.atom {B : World} {own : List Nat} {c : Ctx} {w : World} {A : Atom} (h : Inv B own c w) (hm : A ∈ c) {b : Nat} {o : Obj} (ho : (b, o) ∈ A) : w.heap[b]? = some o :=
  h.heap b o (List.mem_flatten.2 ⟨A, hm, ho⟩)

/-- What is in the map under p, else z. -/
def mgetD (ev : V → Value) (z : Value) (l : List (K × V)) (p : K) : Value := match mget l p with
  | some u => ev u
  | none => z

theorem run_lookup {P : Program} {w : World} {t kt et : TypeId} {m : Nat} {es : Array MapEntry} {clock : Nat} {l : List (K × V)} {p : K} {z : Value} {ok : Bool} (hu : ∀ w, (underlying t).run P w = .ok (.map kt et) w) (hk : KeyLaw P kt ek) (hz : ∀ w, (zeroValue et).run P w = .ok z w)
    (hh : w.heap[m]? = some (.map es clock)) (hr : MRep ek ev es.toList l) : (Instr.lookup t (.map (some m)) (ek p) ok).run P w = .ok (if ok then .tuple #[mgetD ev z l p, .bool (mget l p).isSome] else mgetD ev z l p) w := by
  simp only [Instr.lookup, Sem.run_bind, hu, Result.andThen_ok, run_getObj' hh, Sem.run_pure, hk.chk, hk.fnd ev _ l p _ hr]
  rw [mgetD, fidx_get]
  cases fidx l p with
  | none => simp [hz, Result.andThen]
  | some x => simp [Result.andThen]

theorem q_lookup {t kt et : TypeId} {x ix : Operand} {m : Nat} {A : Atom} {l : List (K × V)} {p : K} {z : Value} (hu : ∀ w, (underlying t).run M.P w = .ok (.map kt et) w) (hk : KeyLaw M.P kt ek) (hz : ∀ w, (zeroValue et).run M.P w = .ok z w)
    (hA : MapIs ek ev A m l) (hm : A ∈ ctx) (hx : evalO env x = some (.map (some m))) (hi : evalO env ix = some (ek p)) :
    QY M all ⟨dst, .lookup t x ix false, ty, pos, aft, none⟩ env ctx (mgetD ev z l p) :=
  QY.val rfl fun ρ w h hi' => by
    obtain ⟨es, clock, rfl, hr, _, _⟩ := hA
    have := run_lookup (ok := false) (p := p) hu hk hz (hi'.atom hm (List.mem_singleton.2 rfl)) hr
    simp only [execOp, h x _ (by simp [Op.operands]) hx, h ix _ (by simp [Op.operands]) hi, Sem.run_bind, this, Result.andThen_ok, Sem.run_pure]
    rfl

theorem q_lookup2 {t kt et : TypeId} {x ix : Operand} {m : Nat} {A : Atom} {l : List (K × V)} {p : K} {z : Value} (hu : ∀ w, (underlying t).run M.P w = .ok (.map kt et) w) (hk : KeyLaw M.P kt ek) (hz : ∀ w, (zeroValue et).run M.P w = .ok z w)
    (hA : MapIs ek ev A m l) (hm : A ∈ ctx) (hx : evalO env x = some (.map (some m))) (hi : evalO env ix = some (ek p)) :
    QY M all ⟨dst, .lookup t x ix true, ty, pos, aft, none⟩ env ctx (.tuple #[mgetD ev z l p, .bool (mget l p).isSome]) :=
  QY.val rfl fun ρ w h hi' => by
    obtain ⟨es, clock, rfl, hr, _, _⟩ := hA
    have := run_lookup (ok := true) (p := p) hu hk hz (hi'.atom hm (List.mem_singleton.2 rfl)) hr
    simp only [execOp, h x _ (by simp [Op.operands]) hx, h ix _ (by simp [Op.operands]) hi, Sem.run_bind, this, Result.andThen_ok, Sem.run_pure]
    rfl

theorem setObj_inv {B : World} {own : List Nat} {c c' : Ctx} {w : World} {m : Nat} {o o' : Obj} (hu : Upd c [(m, o)] [(m, o')] c') (h : Inv B own c w) : Inv B own c' { w with heap := w.heap.setIfInBounds m o' } := by
  have hb := h.upd_lt hu (b := m) (List.mem_singleton.2 rfl)
  have hlt : m < w.heap.size := (Array.getElem?_eq_some_iff.1 hb).1
  exact h.upd hu (by simp [hlt]) (fun k hk => Array.getElem?_setIfInBounds_ne (fun e => hk e.symm)) (by simp) rfl rfl rfl

theorem e_mapUpdate {t kt et : TypeId} {x ix y : Operand} {m : Nat} {A : Atom} {l : List (K × V)} {p : K} {v : V} {c' : Atom → Ctx} (hu : ∀ w, (underlying t).run M.P w = .ok (.map kt et) w) (hk : KeyLaw M.P kt ek)
    (hA : MapIs ek ev A m l) (hm : ∀ A', Upd ctx A A' (c' A')) (hx : evalO env x = some (.map (some m))) (hi : evalO env ix = some (ek p)) (hv : evalO env y = some (ev v)) :
    EY M all ⟨dst, .mapUpdate t x ix y, ty, pos, aft, none⟩ env ctx (fun u c => ∃ A', MapIs ek ev A' m (mput l p v) ∧ u = undef ∧ c = c' A') :=
  EY.mk rfl fun ρ w h hi' => by
    obtain ⟨es, clock, rfl, hr, hkl, hb⟩ := hA
    have hh := hi'.upd_lt (hm []) (b := m) (List.mem_singleton.2 rfl)
    have hexec : (execOp ρ ⟨dst, .mapUpdate t x ix y, ty, pos, aft, none⟩).run M.P w = ((Instr.mapUpdate t (.map (some m)) (ek p) (ev v)).run M.P w).andThen fun _ w' => .ok .skip w' := by
      simp only [execOp, h x _ (by simp [Op.operands]) hx, h ix _ (by simp [Op.operands]) hi, h y _ (by simp [Op.operands]) hv, Sem.run_bind, Sem.run_pure]
    cases hf : fidx l p with
    | none =>
      refine ⟨undef, { w with heap := w.heap.setIfInBounds m (.map (es.push { key := ek p, val := ev v, born := clock }) (clock + 1)) }, c' [(m, .map (es.push { key := ek p, val := ev v, born := clock }) (clock + 1))], .inr ⟨?_, rfl⟩, setObj_inv (hm _) hi',
        _, ⟨_, _, rfl, by simpa using hr.push (v := v) (c := clock) hf, hkl.put p v, ⟨?_, ?_⟩⟩, rfl, rfl⟩
      · rw [hexec]
        simp only [Instr.mapUpdate, Sem.run_bind, hu, Result.andThen_ok, run_getObj' hh, hk.chk, hk.fnd ev _ l p _ hr, hf, Option.map_none, run_setObj' hh]
      · simp only [Array.toList_push, List.map_append, List.map_cons, List.map_nil, List.nodup_append]
        refine ⟨hb.nd, by simp, fun a ha b hb' => ?_⟩
        obtain ⟨e, he, rfl⟩ := List.mem_map.1 ha
        have h1 := hb.lt e he
        simp only [List.mem_singleton] at hb'
        omega
      · intro e he
        simp only [Array.toList_push, List.mem_append, List.mem_singleton] at he
        rcases he with he | rfl
        · exact Nat.lt_succ_of_lt (hb.lt e he)
        · exact Nat.lt_succ_self _
    | some y =>
      obtain ⟨i, u⟩ := y
      have hkey := fidx_key hr hf
      have hkey' : ((es[i]?).map (·.key)).getD (ek p) = ek p := by
        have : (es[i]?).map (·.key) = some (ek p) := by simpa using hkey
        rw [this]; rfl
      refine ⟨undef, { w with heap := w.heap.setIfInBounds m (.map (es.modify i fun e => { e with key := ek p, val := ev v }) clock) }, c' [(m, .map (es.modify i fun e => { e with key := ek p, val := ev v }) clock)], .inr ⟨?_, rfl⟩, setObj_inv (hm _) hi',
        _, ⟨_, _, rfl, by simpa using hr.modify (v := v) hf, hkl.put p v, ⟨?_, ?_⟩⟩, rfl, rfl⟩
      · rw [hexec]
        simp only [Instr.mapUpdate, Sem.run_bind, hu, Result.andThen_ok, run_getObj' hh, hk.chk, hk.fnd ev _ l p _ hr, hf, Option.map_some, hkey', Instr.keyThatStays, hk.same, if_true, Sem.run_pure, run_setObj' hh]
      · have : (es.modify i fun e => { e with key := ek p, val := ev v }).toList.map (·.born) = es.toList.map (·.born) := by
          simp only [Array.toList_modify]
          generalize es.toList = q
          clear hr hb hkey hkey' hh hi' hf
          induction q generalizing i with
          | nil => simp
          | cons e q ih => cases i <;> simp [*]
        rw [this]; exact hb.nd
      · intro e he
        simp only [Array.toList_modify] at he
        have : ∀ (q : List MapEntry) (i : Nat) (e : MapEntry), e ∈ (q.modify i fun e => { e with key := ek p, val := ev v }) → ∃ e', e' ∈ q ∧ e'.born = e.born := by
          intro q
          induction q with
          | nil => intro i e h; simp at h
          | cons x q ih =>
            intro i e h
            cases i with
            | zero =>
              simp only [List.modify_zero_cons, List.mem_cons] at h
              rcases h with rfl | h
              · exact ⟨x, List.mem_cons_self .., rfl⟩
              · exact ⟨e, List.mem_cons_of_mem _ h, rfl⟩
            | succ i =>
              simp only [List.modify_succ_cons, List.mem_cons] at h
              rcases h with rfl | h
              · exact ⟨_, List.mem_cons_self .., rfl⟩
              · obtain ⟨e', h1, h2⟩ := ih i e h
                exact ⟨e', List.mem_cons_of_mem _ h1, h2⟩
        obtain ⟨e', h1, h2⟩ := this es.toList i e he
        rw [← h2]; exact hb.lt e' h1

theorem e_delete {t kt et t2 : TypeId} {x ix : Operand} {m : Nat} {A : Atom} {l : List (K × V)} {p : K} {c' : Atom → Ctx} (hu : ∀ w, (underlying t).run M.P w = .ok (.map kt et) w) (hk : KeyLaw M.P kt ek)
    (hA : MapIs ek ev A m l) (hm : ∀ A', Upd ctx A A' (c' A')) (hx : evalO env x = some (.map (some m))) (hi : evalO env ix = some (ek p)) :
    EY M all ⟨dst, .call ⟨.builtin .delete, #[x, ix], #[t, t2]⟩, ty, pos, aft, none⟩ env ctx (fun u c => ∃ A', MapIs ek ev A' m (mdel l p) ∧ u = .tuple #[] ∧ c = c' A') :=
  EY.mk rfl fun ρ w h hi' => by
    obtain ⟨es, clock, rfl, hr, hkl, hb⟩ := hA
    have hh := hi'.upd_lt (hm []) (b := m) (List.mem_singleton.2 rfl)
    have hexec : (execOp ρ ⟨dst, .call ⟨.builtin .delete, #[x, ix], #[t, t2]⟩, ty, pos, aft, none⟩).run M.P w = ((Builtin.delete_ #[t, t2] ty #[.map (some m), ek p]).run M.P w).andThen fun v w' => .ok (.value v) w' := by
      simp [execOp, resolve, invoke, builtin, h x _ (by simp [Op.operands, Call.operands]) hx, h ix _ (by simp [Op.operands, Call.operands]) hi, Result.andThen]
    have hsub : ∀ (q : List MapEntry) (i : Nat), (q.eraseIdx i).Sublist q := fun q i => List.eraseIdx_sublist q i
    cases hf : fidx l p with
    | none =>
      refine ⟨.tuple #[], { w with heap := w.heap.setIfInBounds m (.map es clock) }, c' [(m, .map es clock)], .inl ?_, setObj_inv (hm _) hi', _, ⟨_, _, rfl, by rw [mdel_none hf]; exact hr, hkl.del p, hb⟩, rfl, rfl⟩
      rw [hexec]
      simp [Builtin.delete_, hu, run_getObj' hh, hk.chk, hk.fnd ev _ l p _ hr, hf, run_setObj' hh, Result.andThen]
    | some y =>
      obtain ⟨i, u⟩ := y
      refine ⟨.tuple #[], { w with heap := w.heap.setIfInBounds m (.map (es.eraseIdxIfInBounds i) clock) }, c' [(m, .map (es.eraseIdxIfInBounds i) clock)], .inl ?_, setObj_inv (hm _) hi', _, ⟨_, _, rfl, by simpa [Array.toList_eraseIdxIfInBounds] using hr.erase hf, hkl.del p, ⟨?_, ?_⟩⟩, rfl, rfl⟩
      · rw [hexec]
        simp [Builtin.delete_, hu, run_getObj' hh, hk.chk, hk.fnd ev _ l p _ hr, hf, run_setObj' hh, Result.andThen]
      · simp only [Array.toList_eraseIdxIfInBounds]
        exact hb.nd.sublist ((hsub _ _).map _)
      · intro e he
        simp only [Array.toList_eraseIdxIfInBounds] at he
        exact hb.lt e ((hsub _ _).subset he)

theorem e_makeMap {t : TypeId} :
    EY M all ⟨dst, .makeMap t none, ty, pos, aft, none⟩ env ctx (fun v c => ∃ m A, MapIs ek ev A m [] ∧ v = .map (some m) ∧ c = A :: ctx) :=
  EY.mk rfl fun ρ w h hi => ⟨.map (some w.heap.size), w.alloc (.map #[] 0), _, .inl (by
    simp [execOp, Instr.makeMap, Result.andThen]), hi.alloc _, _, _, ⟨#[], 0, rfl, by simp [MRep], by simp [Keys], ⟨by simp, by simp⟩⟩, rfl, rfl⟩

/-- m[k] read and written at once: the entry. -/
theorem e_mapEntry {t kt et : TypeId} {x ix : Operand} {m : Nat} {A : Atom} {l : List (K × V)} {p : K} {z : V} {c' : Atom → Ctx} (hu : ∀ w, (underlying t).run M.P w = .ok (.map kt et) w) (hk : KeyLaw M.P kt ek) (hz : ∀ w, (zeroValue et).run M.P w = .ok (ev z) w)
    (hA : MapIs ek ev A m l) (hm : ∀ A', Upd ctx A A' (c' A')) (hx : evalO env x = some (.map (some m))) (hi : evalO env ix = some (ek p)) :
    EY M all ⟨dst, .mapEntry t x ix, ty, pos, aft, none⟩ env ctx (fun u c => ∃ (A' : Atom) (st : Nat), (MapIs ek ev A' m (mput l p ((mget l p).getD z)) ∧ ∃ es clock, A' = [(m, .map es clock)] ∧ ∃ i, (es.toList[i]?).map (·.born) = some st ∧ fidx (mput l p ((mget l p).getD z)) p = some (i, (mget l p).getD z)) ∧
      u = .tuple #[ev ((mget l p).getD z), .int .i64 st] ∧ c = c' A') :=
  EY.mk rfl fun ρ w h hi' => by
    obtain ⟨es, clock, rfl, hr, hkl, hb⟩ := hA
    have hh := hi'.upd_lt (hm []) (b := m) (List.mem_singleton.2 rfl)
    have hexec : (execOp ρ ⟨dst, .mapEntry t x ix, ty, pos, aft, none⟩).run M.P w = ((Instr.mapEntry t (.map (some m)) (ek p)).run M.P w).andThen fun v w' => .ok (.value v) w' := by
      simp only [execOp, h x _ (by simp [Op.operands]) hx, h ix _ (by simp [Op.operands]) hi, Sem.run_bind, Sem.run_pure]
    have hput : ∀ (l : List (K × V)) v, ∃ i, fidx (mput l p v) p = some (i, v) := by
      intro l v
      have h1 : mget (mput l p v) p = some v := by rw [mget_put, if_pos rfl]
      rw [fidx_get] at h1
      cases h2 : fidx (mput l p v) p with
      | none => rw [h2] at h1; cases h1
      | some q => obtain ⟨i, u⟩ := q; rw [h2] at h1; simp at h1; exact ⟨i, by rw [h1]⟩
    cases hf : fidx l p with
    | none =>
      have hg : mget l p = none := by rw [fidx_get, hf]; rfl
      obtain ⟨i, hi2⟩ := hput l z
      have hrep := hr.push (v := z) (c := clock) hf
      refine ⟨.tuple #[ev z, .int .i64 clock], { w with heap := w.heap.setIfInBounds m (.map (es.push { key := ek p, val := ev z, born := clock }) (clock + 1)) }, c' [(m, .map (es.push { key := ek p, val := ev z, born := clock }) (clock + 1))], .inl ?_, setObj_inv (hm _) hi',
        _, clock, ⟨⟨_, _, rfl, by simpa [hg] using hrep, hkl.put p _, ⟨?_, ?_⟩⟩, _, _, rfl, es.size, by simp, ?_⟩, by simp [hg], rfl⟩
      · rw [hexec]
        simp [Instr.mapEntry, hu, run_getObj' hh, hk.chk, hk.fnd ev _ l p _ hr, hf, run_setObj' hh, hz, goInt, Result.andThen]
      · simp only [Array.toList_push, List.map_append, List.map_cons, List.map_nil, List.nodup_append]
        refine ⟨hb.nd, by simp, fun a ha b hb' => ?_⟩
        obtain ⟨e, he, rfl⟩ := List.mem_map.1 ha
        have h1 := hb.lt e he
        simp only [List.mem_singleton] at hb'
        omega
      · intro e he
        simp only [Array.toList_push, List.mem_append, List.mem_singleton] at he
        rcases he with he | rfl
        · exact Nat.lt_succ_of_lt (hb.lt e he)
        · exact Nat.lt_succ_self _
      · have hpos : ∀ (l : List (K × V)), fidx l p = none → fidx (mput l p z) p = some (l.length, z) := by
          intro l
          induction l with
          | nil => intro _; simp [mput, fidx]
          | cons x r ih =>
            intro h'
            obtain ⟨q, u⟩ := x
            simp only [fidx] at h'
            simp only [mput]
            by_cases e0 : p = q
            · rw [if_pos e0] at h'; cases h'
            · rw [if_neg e0] at h' ⊢
              simp only [fidx]
              rw [if_neg e0, ih (by cases h2 : fidx r p <;> simp [h2] at h' ⊢)]
              rfl
        have := hpos l hf
        simp only [hg, Option.getD_none]
        rw [this, ← hr.len]
        simp
    | some y =>
      obtain ⟨i, u⟩ := y
      have hg : mget l p = some u := by rw [fidx_get, hf]; rfl
      have hkey := fidx_key hr hf
      have hil : i < es.toList.length := by rw [hr.len]; exact fidx_lt hf
      have hil' : i < es.size := by simpa using hil
      have hrep := hr.modify (v := u) hf
      have hid : (es.modify i fun e => { e with key := ek p }).toList = es.toList.modify i fun e => { e with key := ek p, val := ev u } := by
        simp only [Array.toList_modify]
        have hval : ∀ {es : List MapEntry} {l : List (K × V)} {i : Nat}, MRep ek ev es l → fidx l p = some (i, u) → (es.modify i fun e => { e with key := ek p }) = es.modify i fun e => { e with key := ek p, val := ev u } := by
          intro es
          induction es with
          | nil => intro l i _ _; simp
          | cons e es ih =>
            intro l i h hf
            obtain ⟨q, u', r, rfl, h1, h2, h3⟩ := h.cons
            simp only [fidx] at hf
            by_cases e0 : p = q
            · rw [if_pos e0] at hf
              obtain ⟨rfl, rfl⟩ := Prod.mk.inj (Option.some.inj hf)
              simp [h2]
            · rw [if_neg e0] at hf
              cases hr' : fidx r p with
              | none => simp [hr'] at hf
              | some y =>
                obtain ⟨j, u2⟩ := y
                simp only [hr', Option.map_some, Option.some.injEq, Prod.mk.injEq] at hf
                obtain ⟨rfl, rfl⟩ := hf
                simp [ih h3 hr']
        exact hval hr hf
      have hborn : ∀ (q : List MapEntry) (i : Nat), (q.modify i fun e => { e with key := ek p, val := ev u }).map (·.born) = q.map (·.born) := by
        intro q
        induction q with
        | nil => intro i; simp
        | cons e q ih => intro i; cases i <;> simp [ih]
      have hkey' : ((es[i]?).map (·.key)).getD (ek p) = ek p := by
        have : (es[i]?).map (·.key) = some (ek p) := by simpa using hkey
        rw [this]; rfl
      refine ⟨.tuple #[ev u, .int .i64 (es[i]).born], { w with heap := w.heap.setIfInBounds m (.map (es.modify i fun e => { e with key := ek p }) clock) }, c' [(m, .map (es.modify i fun e => { e with key := ek p }) clock)], .inl ?_, setObj_inv (hm _) hi',
        _, (es[i]).born, ⟨⟨_, _, rfl, by rw [hid]; simpa [hg] using hrep, hkl.put p _, ⟨?_, ?_⟩⟩, _, _, rfl, i, ?_, ?_⟩, by simp [hg], rfl⟩
      · rw [hexec]
        simp only [Instr.mapEntry, Sem.run_bind, hu, Result.andThen_ok, run_getObj' hh, hk.chk, hk.fnd ev _ l p _ hr, hf, Option.map_some, hkey', Instr.keyThatStays, hk.same, if_true, Sem.run_pure, run_setObj' hh, goInt]
        simp [hil']
      · rw [hid, hborn]; exact hb.nd
      · intro e he
        have : e.born ∈ ((es.modify i fun e => { e with key := ek p }).toList.map (·.born)) := List.mem_map.2 ⟨e, he, rfl⟩
        rw [hid, hborn] at this
        obtain ⟨e', h1, h2⟩ := List.mem_map.1 this
        rw [← h2]; exact hb.lt e' h1
      · rw [hid, ← List.getElem?_map, hborn]
        simp [hil']
      · rw [hg]
        have hpos : ∀ (l : List (K × V)) (i : Nat), fidx l p = some (i, u) → fidx (mput l p u) p = some (i, u) := by
          intro l
          induction l with
          | nil => intro i h'; simp [fidx] at h'
          | cons x r ih =>
            intro i h'
            obtain ⟨q, u'⟩ := x
            simp only [fidx] at h'
            simp only [mput]
            by_cases e0 : p = q
            · rw [if_pos e0] at h' ⊢; simp only [fidx, if_true]; exact (by obtain ⟨rfl, rfl⟩ := Prod.mk.inj (Option.some.inj h'); rfl)
            · rw [if_neg e0] at h' ⊢
              simp only [fidx]
              rw [if_neg e0]
              cases hr' : fidx r p with
              | none => simp [hr'] at h'
              | some y =>
                obtain ⟨j, u2⟩ := y
                simp only [hr', Option.map_some, Option.some.injEq, Prod.mk.injEq] at h'
                obtain ⟨rfl, rfl⟩ := h'
                rw [ih j hr']; rfl
        exact hpos l i hf
end
end Go.SL
