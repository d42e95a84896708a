/-
  A find in a skip list without marks, plainly: how many loads it does.
-/
import Derived.Test.YtaphhhnnplljdaaSk8
set_option linter.unusedSimpArgs false
set_option linter.unusedVariables false
namespace Go.Proofs.Ytaphhhnnplljdaa
open Go Go.SL

def low (key : Int) (R : List Nd) : List Nd := R.takeWhile fun y => decide (y.key < key)
def vis (key : Int) : List Nd → Nat
  | [] => 0
  | y :: r => if y.key < key then vis key r + 1 else 1

/-- A lane that goes along a chain without marks. -/
structure TAt (m : Mem) (key lv : Int) (x : Lane) (R : List Nd) : Prop where
  le : x.level = lv
  ky : x.key = key
  vl : x.vals = false
  ch : Chain m lv x.at_.place false R
  um : ∀ y, y ∈ R → y.mark = false ∧ 1 ≤ y.slot
  st : x.pc = 0 ∨ x.pc = 1 ∧ x.into.word = m x.at_.place ∨ ∃ y R', R = y :: R' ∧ x.who.slot = y.slot ∧ (x.pc = 2 ∨ x.pc = 3 ∧ x.out.word = m (cellP y.slot (7 + lv)) ∨ x.pc = 5 ∧ x.out.word = m (cellP y.slot (7 + lv)) ∨ x.pc = 6 ∧ x.out.word = m (cellP y.slot (7 + lv)) ∧ x.k.word = y.key)

def tleft (key : Int) (x : Lane) (R : List Nd) : Nat :=
  if x.pc = 0 then 2 + 4 * vis key R else if x.pc = 1 then 1 + 4 * vis key R else if x.pc = 2 then 4 * vis key R else if x.pc = 3 then 4 * vis key R - 1 else if x.pc = 5 then 4 * vis key R - 2 else 4 * vis key R - 3

theorem vis_pos {key : Int} {y : Nd} {R : List Nd} : 1 ≤ vis key (y :: R) := by
  unfold vis
  split <;> omega

theorem tstep {m : Mem} {key lv e r : Int} {x : Lane} {R : List Nd} (h : TAt m key lv x R) (he : m epochP = IntKind.u64.wrap e) :
    (x.step e r m).wr = none ∧ (x.step e r m).ld = true ∧ (x.step e r m).r = r ∧
      (((x.step e r m).st = 0 ∧ ∃ R', TAt m key lv (x.step e r m).x R' ∧ tleft key (x.step e r m).x R' + 1 = tleft key x R ∧ endP lv (x.step e r m).x.at_.place (low key R') = endP lv x.at_.place (low key R)) ∨
       ((x.step e r m).st = 1 ∧ tleft key x R = 1 ∧ (x.step e r m).x.at_.place = endP lv x.at_.place (low key R))) := by
  obtain ⟨h1, h2, h3, h4, h5, h6⟩ := h
  -- coming to the rest of a chain
  have comes : ∀ (x0 : Lane) (w : Val) (R' : List Nd), x0.level = lv → x0.key = key → x0.vals = false → Chain m lv x0.at_.place false R' → (∀ y, y ∈ R' → y.mark = false ∧ 1 ≤ y.slot) → w.word = m x0.at_.place →
      (R' = [] ∧ comeSt w = 1) ∨ (comeSt w = 0 ∧ TAt m key lv (x0.come w) R' ∧ tleft key (x0.come w) R' = 4 * vis key R') := by
    intro x0 w R' g1 g2 g3 g4 g5 g6
    have hsl := g4.slot
    rw [← g6] at hsl
    cases R' with
    | nil =>
      left
      simp only [List.head?_nil, Option.map_none, Option.getD_none] at hsl
      exact ⟨rfl, by simp [comeSt, hsl]⟩
    | cons y R' =>
      right
      simp only [List.head?_cons, Option.map_some, Option.getD_some] at hsl
      have hy := (g5 y (by simp)).2
      have hne : ¬ wslot w.word = 0 := by omega
      refine ⟨by simp [comeSt, hne], ⟨g1, g2, g3, g4, g5, .inr (.inr ⟨y, R', rfl, ?_, .inl rfl⟩)⟩, by simp [tleft, Lane.come]⟩
      show (if wslot w.word = 0 then (⟨0, 0⟩ : Who) else ⟨wslot w.word, w.id⟩).slot = y.slot
      rw [if_neg hne, hsl]
  rcases h6 with hpc | ⟨hpc, hi⟩ | ⟨y, R', rfl, hs, h6⟩
  · -- 0
    have hst : x.step e r m = ⟨0, { x with pc := 1, into := ⟨m x.at_.place, 0, false⟩ }, r, none, true⟩ := by
      simp [Lane.step, hpc]
    rw [hst]
    exact ⟨rfl, rfl, rfl, .inl ⟨rfl, R, ⟨h1, h2, h3, h4, h5, .inr (.inl ⟨rfl, rfl⟩)⟩, by simp [tleft, hpc]; omega, rfl⟩⟩
  · -- 1
    have hmk : marked x.into.word = false := by rw [hi]; exact h4.mark
    have hst : x.step e r m = ⟨comeSt x.into, x.come x.into, r, none, true⟩ := by
      simp [Lane.step, hpc, he, Lane.hold, hmk]
    rw [hst]
    refine ⟨rfl, rfl, rfl, ?_⟩
    rcases comes x x.into R h1 h2 h3 h4 h5 hi with ⟨rfl, c⟩ | ⟨c1, c2, c3⟩
    · exact .inr ⟨c, by simp [tleft, hpc, vis], rfl⟩
    · exact .inl ⟨c1, R, c2, by rw [c3]; simp [tleft, hpc]; omega, rfl⟩
  · have hv := vis_pos (key := key) (y := y) (R := R')
    obtain ⟨k1, k2, k3, k4, k5⟩ := h4
    have hnx : x.next.place = cellP y.slot (7 + lv) := by simp [Lane.next, hs, h1]
    have hys := (h5 y (by simp)).2
    have hym := (h5 y (by simp)).1
    have h5' : ∀ z, z ∈ R' → z.mark = false ∧ 1 ≤ z.slot := fun z hz => h5 z (List.mem_cons_of_mem _ hz)
    have hch : Chain m lv x.at_.place false (y :: R') := ⟨k1, k2, k3, k4, k5⟩
    rw [hym] at k5
    rcases h6 with hpc | ⟨hpc, ho⟩ | ⟨hpc, ho⟩ | ⟨hpc, ho, hk⟩
    · have hst : x.step e r m = ⟨0, { x with pc := 3, out := ⟨m (cellP y.slot (7 + lv)), 0, false⟩ }, r, none, true⟩ := by
        simp [Lane.step, hpc, hnx]
      rw [hst]
      exact ⟨rfl, rfl, rfl, .inl ⟨rfl, y :: R', ⟨h1, h2, h3, hch, h5, .inr (.inr ⟨y, R', rfl, hs, .inr (.inl ⟨rfl, rfl⟩)⟩)⟩, by simp [tleft, hpc]; omega, rfl⟩⟩
    · have hmk : marked x.out.word = false := by rw [ho]; exact k5.mark
      have hst : x.step e r m = ⟨0, { x with pc := 5 }, r, none, true⟩ := by
        simp [Lane.step, hpc, he, Lane.hold, hmk]
      rw [hst]
      exact ⟨rfl, rfl, rfl, .inl ⟨rfl, y :: R', ⟨h1, h2, h3, hch, h5, .inr (.inr ⟨y, R', rfl, hs, .inr (.inr (.inl ⟨rfl, ho⟩))⟩)⟩, by simp [tleft, hpc]; omega, rfl⟩⟩
    · have hst : x.step e r m = ⟨0, { x with pc := 6, k := ⟨m (cellP y.slot 3), 0, false⟩ }, r, none, true⟩ := by
        simp [Lane.step, hpc, hs]
      rw [hst]
      exact ⟨rfl, rfl, rfl, .inl ⟨rfl, y :: R', ⟨h1, h2, h3, hch, h5, .inr (.inr ⟨y, R', rfl, hs, .inr (.inr (.inr ⟨rfl, ho, k3⟩))⟩)⟩, by simp [tleft, hpc]; omega, rfl⟩⟩
    · by_cases hlt : y.key < key
      · have hst : x.step e r m = ⟨comeSt x.out, Lane.come { x with at_ := x.next } x.out, r, none, true⟩ := by
          simp [Lane.step, hpc, he, Lane.hold, Lane.compare, hk, h2, hlt]
        rw [hst]
        refine ⟨rfl, rfl, rfl, ?_⟩
        have hlow : low key (y :: R') = y :: low key R' := by simp [low, hlt]
        have hvis : vis key (y :: R') = vis key R' + 1 := by simp [vis, hlt]
        have hE : endP lv x.at_.place (low key (y :: R')) = endP lv (cellP y.slot (7 + lv)) (low key R') := by rw [hlow]; rfl
        rcases comes { x with at_ := x.next } x.out R' h1 h2 h3 (by dsimp only; rw [hnx]; exact k5) h5' (by dsimp only; rw [hnx]; exact ho) with ⟨rfl, c⟩ | ⟨c1, c2, c3⟩
        · refine .inr ⟨c, by simp [tleft, hpc, vis, hlt], ?_⟩
          rw [hE]; exact hnx
        · refine .inl ⟨c1, R', c2, by rw [c3]; simp [tleft, hpc, hvis]; omega, ?_⟩
          rw [hE]
          show endP lv x.next.place _ = _
          rw [hnx]
      · have hst : x.step e r m = ⟨1, { x with found := decide (y.key = key) }, r, none, true⟩ := by
          have hlt' : ¬ x.k.word < x.key := by rw [hk, h2]; exact hlt
          simp [Lane.step, hpc, he, Lane.hold, Lane.compare, hlt', h3]
          rw [hk, h2]
        rw [hst]
        exact ⟨rfl, rfl, rfl, .inr ⟨rfl, by simp [tleft, hpc, vis, hlt], by simp [low, hlt, endP]⟩⟩

/-! ### A skip list -/
structure NdT where
  slot : Int
  key : Int
  top : Int
  marks : Int
deriving DecidableEq

def lvl (k : Int) (S : List NdT) : List Nd := (S.filter fun z => decide (k < z.top)).map fun z => ⟨z.slot, z.key, 0, false⟩

def sp (lv : Int) : Option Nd → Plc
  | none => rootP lv
  | some z => cellP z.slot (7 + lv)
def restOf (L : List Nd) : Option Nd → List Nd
  | none => L
  | some z => L.dropWhile fun y => decide (y.key ≤ z.key)

def Rise (L : List Nd) : Prop := L.Pairwise fun a b => a.key < b.key

theorem endP_sp (lv : Int) (d : Option Nd) (W : List Nd) : endP lv (sp lv d) W = sp lv (W.getLast?.or d) := by
  rcases List.eq_nil_or_concat W with rfl | ⟨A, z, rfl⟩
  · simp [endP]
  · rw [List.concat_eq_append, endP_snoc, List.getLast?_append]
    simp [sp]

theorem chain_rest {m : Mem} {lv : Int} {L : List Nd} {d : Option Nd} (h : Chain m lv (rootP lv) false L) (hr : Rise L) (hm : ∀ y, y ∈ L → y.mark = false) (hd : ∀ z, d = some z → z ∈ L) : Chain m lv (sp lv d) false (restOf L d) := by
  cases d with
  | none => exact h
  | some z =>
    obtain ⟨A, R, rfl⟩ := List.append_of_mem (hd z rfl)
    have hr' := hr
    unfold Rise at hr'
    rw [List.pairwise_append] at hr'
    obtain ⟨p1, p2, p3⟩ := hr'
    rw [List.pairwise_cons] at p2
    have e : restOf (A ++ z :: R) (some z) = R := by
      show (A ++ z :: R).dropWhile _ = R
      rw [List.dropWhile_append_of_pos (fun a ha => by have := p3 a ha z (by simp); simp; omega), List.dropWhile_cons_of_pos (by simp)]
      cases R with
      | nil => rfl
      | cons w R =>
        rw [List.dropWhile_cons_of_neg]
        have := p2.1 w (by simp)
        simp; omega
    rw [e]
    obtain ⟨mk', c1, c2⟩ := Chain.append (W := A) h
    obtain ⟨_, _, _, _, c5⟩ := c1
    rw [hm z (by simp)] at c5
    exact c5

theorem rest_sub {L : List Nd} {d : Option Nd} : ∀ y, y ∈ restOf L d → y ∈ L := by
  intro y hy
  cases d with
  | none => exact hy
  | some z => exact (List.dropWhile_sublist _).subset hy

def nextD (key : Int) (L : List Nd) (d : Option Nd) : Option Nd := ((low key (restOf L d)).getLast?).or d
/-- The loads of the lowest k levels. -/
def tot (key : Int) (S : List NdT) : Nat → Option Nd → Nat
  | 0, _ => 0
  | k + 1, d => 2 + 4 * vis key (restOf (lvl k S) d) + tot key S k (nextD key (lvl k S) d)

theorem lvl_sub {S : List NdT} {k j : Int} (h : j ≤ k) : ∀ y, y ∈ lvl k S → y ∈ lvl j S := by
  intro y hy
  simp only [lvl, List.mem_map, List.mem_filter, decide_eq_true_eq] at hy ⊢
  obtain ⟨z, ⟨hz, ht⟩, rfl⟩ := hy
  exact ⟨z, ⟨hz, by omega⟩, rfl⟩

theorem nextD_mem {key : Int} {L : List Nd} {d : Option Nd} (hd : ∀ z, d = some z → z ∈ L) : ∀ z, nextD key L d = some z → z ∈ L := by
  intro z hz
  unfold nextD at hz
  cases hl : (low key (restOf L d)).getLast? with
  | none => rw [hl] at hz; exact hd z (by simpa using hz)
  | some w =>
    rw [hl] at hz
    simp at hz
    subst hz
    have := List.mem_of_getLast? hl
    exact rest_sub _ ((List.takeWhile_sublist _).subset this)

/-- The memory of a skip list. -/
structure MemOk (m : Mem) (S : List NdT) (h : Nat) : Prop where
  chain : ∀ k : Nat, k < h → Chain m k (rootP k) false (lvl k S)
  rise : S.Pairwise fun a b => a.key < b.key
  slots : ∀ z, z ∈ S → 1 ≤ z.slot

theorem lvl_rise {S : List NdT} (h : S.Pairwise fun a b => a.key < b.key) (k : Int) : Rise (lvl k S) := by
  unfold Rise lvl
  rw [List.pairwise_map]
  exact h.filter _
theorem lvl_ok {S : List NdT} (h : ∀ z, z ∈ S → 1 ≤ z.slot) (k : Int) : ∀ y, y ∈ lvl k S → y.mark = false ∧ 1 ≤ y.slot := by
  intro y hy
  simp only [lvl, List.mem_map, List.mem_filter] at hy
  obtain ⟨z, ⟨hz, _⟩, rfl⟩ := hy
  exact ⟨rfl, h z hz⟩

structure FS where
  level : Int
  x : Lane
  e : Int
  r : Int
structure FR where
  st : Int
  f : FS
  wr : Option (Plc × Int)
  ld : Bool
def belowP (a : At) (lv : Int) : At := if a.place = rootP (lv + 1) then ⟨rootP lv, 0⟩ else ⟨cellP a.place.slot (7 + lv), a.id⟩
/-- One step of a find. -/
def FS.step (h key : Int) (f : FS) (m : Mem) : FR :=
  if f.level < 0 then ⟨0, ⟨h - 1, newLane ⟨rootP (h - 1), 0⟩ (h - 1) key false, epw (m epochP), f.r⟩, none, true⟩
  else if (f.x.step f.e f.r m).st = 2 then ⟨0, ⟨-1, (f.x.step f.e f.r m).x, f.e, (f.x.step f.e f.r m).r⟩, (f.x.step f.e f.r m).wr, (f.x.step f.e f.r m).ld⟩
  else if (f.x.step f.e f.r m).st = 1 then
    (if f.level = 0 then ⟨1, ⟨0, (f.x.step f.e f.r m).x, f.e, (f.x.step f.e f.r m).r⟩, (f.x.step f.e f.r m).wr, (f.x.step f.e f.r m).ld⟩
     else ⟨0, ⟨f.level - 1, newLane (belowP (f.x.step f.e f.r m).x.at_ (f.level - 1)) (f.level - 1) key false, f.e, (f.x.step f.e f.r m).r⟩, (f.x.step f.e f.r m).wr, (f.x.step f.e f.r m).ld⟩)
  else ⟨0, ⟨f.level, (f.x.step f.e f.r m).x, f.e, (f.x.step f.e f.r m).r⟩, (f.x.step f.e f.r m).wr, (f.x.step f.e f.r m).ld⟩

/-- A find with so many loads to go. -/
def FLeft (m : Mem) (S : List NdT) (key : Int) (h : Nat) (f : FS) (n : Nat) : Prop :=
  (f.level < 0 ∧ n = 1 + tot key S h none) ∨
    ∃ (k : Nat) (R : List Nd) (d : Option Nd), f.level = k ∧ k < h ∧ f.e = 5 ∧ TAt m key k f.x R ∧ endP k f.x.at_.place (low key R) = sp k d ∧ (∀ z, d = some z → z ∈ lvl k S) ∧ n = tleft key f.x R + tot key S k d

theorem below_sp {a : At} {k : Int} {d : Option Nd} (h : a.place = sp (k + 1) d) : (belowP a k).place = sp k d := by
  unfold belowP
  cases d with
  | none => rw [if_pos (show a.place = rootP (k + 1) from h)]; rfl
  | some z =>
    rw [if_neg (by rw [h]; simp [sp, rootP, cellP])]
    show cellP a.place.slot (7 + k) = _
    rw [h]
    rfl

theorem start_left {m : Mem} {S : List NdT} {key : Int} {h : Nat} (hm : MemOk m S h) (k : Nat) (hk : k < h) {d : Option Nd} (hd : ∀ z, d = some z → z ∈ lvl k S) {a : At} (ha : a.place = sp k d) (r : Int) :
    FLeft m S key h ⟨(k : Int), newLane a k key false, 5, r⟩ (tot key S (k + 1) d) := by
  have hok := lvl_ok hm.slots (k : Int)
  refine .inr ⟨k, restOf (lvl k S) d, nextD key (lvl k S) d, rfl, hk, rfl, ⟨rfl, rfl, rfl, ?_, fun y hy => hok y (rest_sub y hy), .inl rfl⟩, ?_, nextD_mem hd, ?_⟩
  · show Chain m k a.place false _
    rw [ha]
    exact chain_rest (hm.chain k hk) (lvl_rise hm.rise _) (fun y hy => (hok y hy).1) hd
  · show endP k a.place _ = _
    rw [ha, endP_sp]
    rfl
  · simp [tleft, newLane, tot]

theorem fleft_step {m : Mem} {S : List NdT} {key : Int} {h : Nat} (hm : MemOk m S h) (hh : 1 ≤ h) (he : m epochP = 5) {f : FS} {n : Nat} (hf : FLeft m S key h f n) :
    1 ≤ n ∧ (f.step h key m).wr = none ∧ (f.step h key m).ld = true ∧
      ((f.step h key m).st = 0 ∧ FLeft m S key h (f.step h key m).f (n - 1) ∨ (f.step h key m).st = 1 ∧ n = 1) := by
  rcases hf with ⟨hl, rfl⟩ | ⟨k, R, d, hl, hk, hfe, hT, hE, hd, rfl⟩
  · have hs : f.step h key m = ⟨0, ⟨(h : Int) - 1, newLane ⟨rootP ((h : Int) - 1), 0⟩ ((h : Int) - 1) key false, epw (m epochP), f.r⟩, none, true⟩ := by
      unfold FS.step
      rw [if_pos hl]
    rw [hs]
    refine ⟨by omega, rfl, rfl, .inl ⟨rfl, ?_⟩⟩
    have e1 : ((h : Int) - 1) = ((h - 1 : Nat) : Int) := by omega
    have e2 : epw (m epochP) = 5 := by rw [he]; rfl
    rw [e1, e2]
    have := start_left (key := key) hm (h - 1) (by omega) (d := none) (fun z hz => by cases hz) (a := ⟨rootP ((h - 1 : Nat) : Int), 0⟩) rfl f.r
    rw [Nat.sub_add_cancel hh] at this
    simpa using this
  · obtain ⟨t1, t2, t3, ht⟩ := tstep (r := f.r) hT (e := f.e) (by rw [hfe, he]; decide)
    have hnl : ¬ f.level < 0 := by omega
    rcases ht with ⟨s0, R', g1, g2, g3⟩ | ⟨s1, g1, g2⟩
    · have hs : f.step h key m = ⟨0, ⟨f.level, (f.x.step f.e f.r m).x, f.e, (f.x.step f.e f.r m).r⟩, (f.x.step f.e f.r m).wr, (f.x.step f.e f.r m).ld⟩ := by
        unfold FS.step
        rw [if_neg hnl, if_neg (by omega), if_neg (by omega)]
      rw [hs]
      refine ⟨by omega, t1, t2, .inl ⟨rfl, .inr ⟨k, R', d, hl, hk, hfe, g1, by dsimp only; rw [g3, hE], hd, by dsimp only; omega⟩⟩⟩
    · by_cases h0 : f.level = 0
      · have hk0 : k = 0 := by omega
        subst hk0
        have hs : f.step h key m = ⟨1, ⟨0, (f.x.step f.e f.r m).x, f.e, (f.x.step f.e f.r m).r⟩, (f.x.step f.e f.r m).wr, (f.x.step f.e f.r m).ld⟩ := by
          unfold FS.step
          rw [if_neg hnl, if_neg (by omega), if_pos s1, if_pos h0]
        rw [hs]
        exact ⟨by omega, t1, t2, .inr ⟨rfl, by rw [g1]; rfl⟩⟩
      · obtain ⟨k', rfl⟩ : ∃ k', k = k' + 1 := ⟨k - 1, by omega⟩
        have hs : f.step h key m = ⟨0, ⟨f.level - 1, newLane (belowP (f.x.step f.e f.r m).x.at_ (f.level - 1)) (f.level - 1) key false, f.e, (f.x.step f.e f.r m).r⟩, (f.x.step f.e f.r m).wr, (f.x.step f.e f.r m).ld⟩ := by
          unfold FS.step
          rw [if_neg hnl, if_neg (by omega), if_pos s1, if_neg h0]
        rw [hs]
        refine ⟨by omega, t1, t2, .inl ⟨rfl, ?_⟩⟩
        have e1 : f.level - 1 = (k' : Int) := by omega
        rw [e1, hfe]
        have hp : (belowP (f.x.step 5 f.r m).x.at_ (k' : Int)).place = sp k' d := below_sp (by rw [hfe] at g2; rw [g2, hE]; simp)
        have hd' : ∀ z, d = some z → z ∈ lvl (k' : Int) S := fun z hz => lvl_sub (by omega) z (hd z hz)
        have := start_left (key := key) hm k' (by omega) hd' hp (f.x.step 5 f.r m).r
        rw [g1]
        simpa [Nat.add_comm] using this

/-! ### What the law counts -/
def skipD : Option Nd → Nd → Bool
  | none, _ => false
  | some z, y => decide (y.key ≤ z.key)
def cnt (key : Int) (d : Option Nd) : List Nd → Nat × Option Nd → Nat × Option Nd
  | [], s => s
  | y :: r, s => if skipD d y = true then cnt key d r s else if key ≤ y.key then (s.1 + 4, s.2) else cnt key d r (s.1 + 4, some y)

theorem cnt_all {key : Int} {d : Option Nd} : ∀ {L : List Nd} {n : Nat} {d' : Option Nd}, (∀ y, y ∈ L → ∀ z, d = some z → z.key < y.key) → cnt key d L (n, d') = (n + 4 * vis key L, ((low key L).getLast?).or d')
  | [], n, d', _ => by simp [cnt, vis, low]
  | y :: r, n, d', h => by
    have h0 : ¬ skipD d y = true := by
      cases d with
      | none => simp [skipD]
      | some z => have := h y (by simp) z rfl; simp [skipD]; omega
    rw [cnt, if_neg h0]
    by_cases hk : key ≤ y.key
    · rw [if_pos hk]
      have hnl : ¬ y.key < key := by omega
      simp [vis, low, hnl]
    · rw [if_neg hk]
      have hl : y.key < key := by omega
      rw [cnt_all (fun w hw => h w (List.mem_cons_of_mem _ hw))]
      have e1 : vis key (y :: r) = vis key r + 1 := by simp [vis, hl]
      have e2 : low key (y :: r) = y :: low key r := by simp [low, hl]
      rw [e1, e2, List.getLast?_cons]
      refine Prod.ext (by dsimp only; omega) ?_
      dsimp only
      cases (low key r).getLast? <;> rfl

theorem cnt_eq {key : Int} {d : Option Nd} {n : Nat} {d' : Option Nd} : ∀ {L : List Nd}, Rise L → cnt key d L (n, d') = (n + 4 * vis key (restOf L d), ((low key (restOf L d)).getLast?).or d')
  | [], _ => by
    cases d <;> simp [cnt, restOf, vis, low]
  | y :: r, h => by
    unfold Rise at h
    rw [List.pairwise_cons] at h
    cases d with
    | none => exact cnt_all (fun _ _ _ hz => by cases hz)
    | some z =>
      by_cases hy : y.key ≤ z.key
      · rw [cnt, if_pos (by simpa [skipD] using hy), cnt_eq h.2]
        simp only [restOf]
        rw [List.dropWhile_cons_of_pos (by simpa using hy)]
      · have e : restOf (y :: r) (some z) = y :: r := by
          simp only [restOf]
          rw [List.dropWhile_cons_of_neg (by simpa using hy)]
        rw [e]
        refine cnt_all fun w hw z' hz' => ?_
        obtain rfl := Option.some.inj hz'
        rcases List.mem_cons.1 hw with rfl | hw
        · omega
        · have := h.1 w hw; omega
end Go.Proofs.Ytaphhhnnplljdaa
