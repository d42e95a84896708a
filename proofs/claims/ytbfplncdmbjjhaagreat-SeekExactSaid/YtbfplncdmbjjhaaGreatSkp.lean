/-
  How a search goes along a list, as plain functions, and what it comes to when nobody else is there.
-/
import Derived.Test.YtbfplncdmbjjhaaGreatC
set_option linter.unusedSimpArgs false
set_option linter.unusedVariables false
namespace Go.Proofs.YtbfplncdmbjjhaaGreat
open Go Go.SL

def Val.zero : Val := ⟨0, 0, false⟩
def cellP (s n : Int) : Plc := ⟨5, s, n⟩
def rootP (n : Int) : Plc := ⟨4, 0, n⟩
abbrev Mem := Plc → Int
def upd (m : Mem) : Option (Plc × Int) → Mem
  | none => m
  | some (p, w) => fun q => if q = p then w else m q
theorem upd_hit (m : Mem) (p : Plc) (w : Int) : upd m (some (p, w)) p = w := by simp [upd]
theorem upd_miss (m : Mem) {p q : Plc} (w : Int) (h : q ≠ p) : upd m (some (p, w)) q = m q := by simp only [upd]; rw [if_neg h]
def wrl (l : List (Plc × Int)) : Option (Plc × Int) → List (Plc × Int)
  | none => l
  | some (p, w) => putw l p w
theorem mem_wrl {l : List (Plc × Int)} (h : Keys l) (o : Option (Plc × Int)) : mem (wrl l o) = upd (mem l) o := by
  cases o with
  | none => rfl
  | some x => obtain ⟨p, w⟩ := x; funext q; exact mem_putw l h p q w

structure Lane where
  at_ : At
  level : Int
  key : Int
  vals : Bool
  pc : Int
  into : Val
  out : Val
  k : Val
  v : Val
  who : Who
  found : Bool

def newLane (a : At) (level key : Int) (vals : Bool) : Lane := ⟨a, level, key, vals, 0, Val.zero, Val.zero, Val.zero, Val.zero, ⟨0, 0⟩, false⟩
def Lane.come (x : Lane) (w : Val) : Lane := { x with into := w, out := Val.zero, pc := 2, who := if wslot w.word = 0 then ⟨0, 0⟩ else ⟨wslot w.word, w.id⟩ }
def comeSt (w : Val) : Int := if wslot w.word = 0 then 1 else 0
def Lane.next (x : Lane) : At := ⟨cellP x.who.slot (7 + x.level), x.who.id⟩

def Lane.compare (x : Lane) : Int × Lane :=
  if x.k.word < x.key then (comeSt x.out, Lane.come { x with at_ := x.next } x.out)
  else if x.k.word = x.key ∧ x.vals = true then (0, { x with found := true, pc := 7 })
  else (1, { x with found := decide (x.k.word = x.key) })
def Lane.hold (x : Lane) : Int × Lane :=
  if x.pc = 1 then (if marked x.into.word then (2, x) else (comeSt x.into, x.come x.into))
  else if x.pc = 3 then (0, { x with pc := if marked x.out.word then 4 else 5 })
  else if x.pc = 6 then x.compare
  else (1, x)

structure LS where
  st : Int
  x : Lane
  r : Int
  wr : Option (Plc × Int)
  ld : Bool

def Lane.cutV (x : Lane) (e : Int) : Val := ⟨lword false (wslot x.out.word) e, x.out.id, x.out.stale⟩
/-- One step of a lane. -/
def Lane.step (x : Lane) (e r : Int) (m : Mem) : LS :=
  if x.pc = 0 then ⟨0, { x with pc := 1, into := ⟨m x.at_.place, 0, false⟩ }, r, none, true⟩
  else if x.pc = 2 then ⟨0, { x with pc := 3, out := ⟨m x.next.place, 0, false⟩ }, r, none, true⟩
  else if x.pc = 5 then ⟨0, { x with pc := 6, k := ⟨m (cellP x.who.slot 3), 0, false⟩ }, r, none, true⟩
  else if x.pc = 7 then ⟨0, { x with pc := 8, v := ⟨m (cellP x.who.slot 4), 0, false⟩ }, r, none, true⟩
  else if x.pc = 4 then
    (if m x.at_.place = x.into.word then ⟨comeSt (x.cutV e), x.come (x.cutV e), r, some (x.at_.place, (x.cutV e).word), false⟩ else ⟨2, x, r, none, false⟩)
  else if m epochP = IntKind.u64.wrap e then ⟨x.hold.1, x.hold.2, r, none, true⟩
  else ⟨2, x, inc r, none, true⟩

structure SSt where
  on : Bool
  some : Bool
  x : Lane
  e : Int
  r : Int
structure SS where
  st : Int
  s : SSt
  wr : Option (Plc × Int)
  ld : Bool
/-- One step of a search. -/
def SSt.step (root key : Int) (vals : Bool) (s : SSt) (m : Mem) : SS :=
  if s.on = true then
    ⟨if (s.x.step s.e s.r m).st = 2 then 0 else (s.x.step s.e s.r m).st, { s with on := decide ((s.x.step s.e s.r m).st ≠ 2), x := (s.x.step s.e s.r m).x, r := (s.x.step s.e s.r m).r }, (s.x.step s.e s.r m).wr, (s.x.step s.e s.r m).ld⟩
  else ⟨0, ⟨true, true, newLane ⟨rootP root, 0⟩ 0 key vals, epw (m epochP), s.r⟩, none, true⟩

structure Nd where
  slot : Int
  key : Int
  val : Int
  mark : Bool
deriving DecidableEq

/-- From p on, whose holder has that mark, the memory leads through these. -/
def Chain (m : Mem) (lv : Int) : Plc → Bool → List Nd → Prop
  | p, mk, [] => wslot (m p) = 0 ∧ marked (m p) = mk
  | p, mk, x :: r => wslot (m p) = x.slot ∧ marked (m p) = mk ∧ m (cellP x.slot 3) = x.key ∧ m (cellP x.slot 4) = x.val ∧ Chain m lv (cellP x.slot (7 + lv)) x.mark r

def endP (lv : Int) : Plc → List Nd → Plc
  | p, [] => p
  | _, x :: r => endP lv (cellP x.slot (7 + lv)) r

def slotsOk (L : List Nd) : Prop := (L.map (·.slot)).Nodup ∧ ∀ x, x ∈ L → 1 ≤ x.slot ∧ x.slot ≤ 8388607

theorem cellP_inj {a b i j : Int} : cellP a i = cellP b j ↔ a = b ∧ i = j := by
  simp [cellP]

theorem Chain.mark {m : Mem} {lv : Int} {p : Plc} {mk : Bool} {L : List Nd} (h : Chain m lv p mk L) : marked (m p) = mk := by
  cases L with
  | nil => exact h.2
  | cons x r => exact h.2.1

theorem Chain.slot {m : Mem} {lv : Int} {p : Plc} {mk : Bool} {L : List Nd} (h : Chain m lv p mk L) : wslot (m p) = (L.head?.map (·.slot)).getD 0 := by
  cases L with
  | nil => exact h.1
  | cons x r => exact h.1

/-- A chain doesn't mind what is written elsewhere. -/
theorem Chain.frame {m m' : Mem} {lv : Int} : ∀ {L : List Nd} {p : Plc} {mk : Bool}, Chain m lv p mk L → m' p = m p → (∀ x, x ∈ L → m' (cellP x.slot 3) = m (cellP x.slot 3) ∧ m' (cellP x.slot 4) = m (cellP x.slot 4) ∧ m' (cellP x.slot (7 + lv)) = m (cellP x.slot (7 + lv))) → Chain m' lv p mk L
  | [], p, mk, h, hp, _ => by simp only [Chain] at h ⊢; rw [hp]; exact h
  | x :: r, p, mk, h, hp, hr => by
    obtain ⟨h1, h2, h3, h4, h5⟩ := h
    obtain ⟨g1, g2, g3⟩ := hr x (List.mem_cons_self ..)
    refine ⟨by rw [hp]; exact h1, by rw [hp]; exact h2, by rw [g1]; exact h3, by rw [g2]; exact h4, h5.frame g3 fun y hy => hr y (List.mem_cons_of_mem _ hy)⟩

theorem Chain.append {m : Mem} {lv : Int} : ∀ {W R : List Nd} {p : Plc} {mk : Bool}, Chain m lv p mk (W ++ R) → ∃ mk', Chain m lv (endP lv p W) mk' R ∧ mk' = (W.getLast?.map (·.mark)).getD mk
  | [], R, p, mk, h => ⟨mk, h, rfl⟩
  | x :: W, R, p, mk, h => by
    obtain ⟨h1, h2, h3, h4, h5⟩ := h
    obtain ⟨mk', h6, h7⟩ := Chain.append h5
    refine ⟨mk', h6, ?_⟩
    rw [h7]
    cases W with
    | nil => simp
    | cons y W =>
      rw [List.getLast?_cons_cons]
      cases h : (y :: W).getLast? with
      | none => simp at h
      | some z => rfl

theorem endP_snoc (lv : Int) : ∀ (W : List Nd) (p : Plc) (x : Nd), endP lv p (W ++ [x]) = cellP x.slot (7 + lv)
  | [], p, x => rfl
  | y :: W, p, x => endP_snoc lv W _ x

theorem endP_cases (lv : Int) : ∀ (W : List Nd) (p : Plc), endP lv p W = p ∧ W = [] ∨ ∃ x, x ∈ W ∧ endP lv p W = cellP x.slot (7 + lv)
  | [], p => .inl ⟨rfl, rfl⟩
  | x :: W, p => by
    rcases endP_cases lv W (cellP x.slot (7 + lv)) with ⟨h1, rfl⟩ | ⟨y, hy, h⟩
    · exact .inr ⟨x, List.mem_cons_self .., h1⟩
    · exact .inr ⟨y, List.mem_cons_of_mem _ hy, h⟩

/-- The first of the rest is cut off. -/
theorem Chain.cut {m : Mem} {lv : Int} {root : Int} {w : Int} {x : Nd} {R : List Nd} : ∀ {W : List Nd} {p : Plc} {mk : Bool}, 0 ≤ lv → (∀ y, y ∈ W → y.mark = false) → slotsOk (W ++ x :: R) → (p = rootP root ∨ ∃ s, p = cellP s (7 + lv) ∧ s ∉ (W ++ x :: R).map (·.slot)) →
    Chain m lv p mk (W ++ x :: R) → wslot w = (R.head?.map (·.slot)).getD 0 → marked w = (if W = [] then mk else false) →
    Chain (upd m (some (endP lv p W, w))) lv p mk (W ++ R)
  | [], p, mk, hlv, hW, hs, hp, h, hw1, hw2 => by
    obtain ⟨h1, h2, h3, h4, h5⟩ := h
    simp only [if_true] at hw2
    have hne : ∀ s, s ∈ (x :: R).map (fun z : Nd => z.slot) → cellP s (7 + lv) ≠ p := by
      intro s hs' e
      rcases hp with rfl | ⟨s', rfl, h'⟩
      · simp [cellP, rootP] at e
      · rw [cellP_inj] at e; rw [e.1] at hs'; exact h' hs'
    have hne3 : ∀ s (i : Int), i = 3 ∨ i = 4 → cellP s i ≠ p := by
      intro s i hi e
      rcases hp with rfl | ⟨s', rfl, h'⟩
      · simp [cellP, rootP] at e
      · rw [cellP_inj] at e; omega
    show Chain (upd m (some (p, w))) lv p mk R
    cases R with
    | nil => exact ⟨by rw [upd_hit]; exact hw1, by rw [upd_hit]; exact hw2⟩
    | cons y R =>
      obtain ⟨k1, k2, k3, k4, k5⟩ := h5
      refine ⟨by rw [upd_hit]; exact hw1, by rw [upd_hit]; exact hw2, ?_, ?_, ?_⟩
      · rw [upd_miss _ _ (hne3 _ 3 (.inl rfl))]; exact k3
      · rw [upd_miss _ _ (hne3 _ 4 (.inr rfl))]; exact k4
      · refine k5.frame ?_ fun z hz => ⟨?_, ?_, ?_⟩
        · exact upd_miss _ _ (hne y.slot (by simp))
        · exact upd_miss _ _ (hne3 _ 3 (.inl rfl))
        · exact upd_miss _ _ (hne3 _ 4 (.inr rfl))
        · exact upd_miss _ _ (hne z.slot (List.mem_map.2 ⟨z, by simp [hz], rfl⟩))
  | y :: W, p, mk, hlv, hW, hs, hp, h, hw1, hw2 => by
    obtain ⟨h1, h2, h3, h4, h5⟩ := h
    have hy : y.mark = false := hW y (List.mem_cons_self ..)
    have hnd := hs.1
    simp only [List.cons_append, List.map_cons, List.nodup_cons] at hnd
    have hs' : slotsOk (W ++ x :: R) := ⟨hnd.2, fun z hz => hs.2 z (List.mem_cons_of_mem _ hz)⟩
    have ih := Chain.cut (root := root) (w := w) (W := W) (p := cellP y.slot (7 + lv)) (mk := y.mark) hlv (fun z hz => hW z (List.mem_cons_of_mem _ hz)) hs' (.inr ⟨y.slot, rfl, hnd.1⟩) h5 hw1 (by rw [hy]; simp at hw2; split <;> exact hw2)
    have hE : ∀ q, (∀ z, z ∈ y :: W → q ≠ cellP z.slot (7 + lv)) → q ≠ endP lv (cellP y.slot (7 + lv)) W := by
      intro q hq e
      rcases endP_cases lv W (cellP y.slot (7 + lv)) with ⟨h', _⟩ | ⟨z, hz, h'⟩
      · exact hq y (List.mem_cons_self ..) (e.trans h')
      · exact hq z (List.mem_cons_of_mem _ hz) (e.trans h')
    have hpE : p ≠ endP lv (cellP y.slot (7 + lv)) W := hE p (fun z hz e => by
      rcases hp with rfl | ⟨s', rfl, h'⟩
      · simp [cellP, rootP] at e
      · rw [cellP_inj] at e
        refine h' ?_
        rw [e.1]
        rcases List.mem_cons.1 hz with rfl | hz
        · simp
        · simp only [List.cons_append, List.map_cons, List.mem_cons, List.map_append, List.mem_append]; exact .inr (.inl (List.mem_map.2 ⟨z, hz, rfl⟩)))
    have h3E : ∀ s (i : Int), i = 3 ∨ i = 4 → cellP s i ≠ endP lv (cellP y.slot (7 + lv)) W := fun s i hi => hE _ (fun z hz e => by rw [cellP_inj] at e; omega)
    show Chain (upd m (some (endP lv (cellP y.slot (7 + lv)) W, w))) lv p mk (y :: (W ++ R))
    refine ⟨?_, ?_, ?_, ?_, ih⟩
    · rw [upd_miss _ _ hpE]; exact h1
    · rw [upd_miss _ _ hpE]; exact h2
    · rw [upd_miss _ _ (h3E _ 3 (.inl rfl))]; exact h3
    · rw [upd_miss _ _ (h3E _ 4 (.inr rfl))]; exact h4

/-- What a cell of a link holds. -/
theorem lword_bounds (mk : Bool) (s e : Int) : 0 ≤ lword mk s e ∧ lword mk s e < 18446744073709551616 := by
  unfold lword
  split
  · cases mk <;> simp <;> omega
  · omega
theorem wslot_lword {mk : Bool} {s e : Int} (h : 0 ≤ s ∧ s ≤ 8388607 ∧ 0 ≤ e ∧ e ≤ 1099511627775) : wslot (lword mk s e) = s := by
  unfold lword wslot
  rw [if_pos h]
  cases mk <;> simp <;> omega
theorem marked_lword {mk : Bool} {s e : Int} (h : 0 ≤ s ∧ s ≤ 8388607 ∧ 0 ≤ e ∧ e ≤ 1099511627775) : marked (lword mk s e) = mk := by
  unfold lword marked
  rw [if_pos h]
  cases mk <;> simp <;> omega
theorem wslot_bounds (w : Int) : 0 ≤ wslot w ∧ wslot w ≤ 8388607 := by unfold wslot; omega

/-! ## Alone -/

/-- A search that goes on alone: L1 is behind it, R ahead; what was marked in L1 is cut off. -/
structure Way (key : Int) (m : Mem) (root : Int) (L1 R : List Nd) : Prop where
  chain : Chain m 0 (rootP root) false (L1.filter (fun x => !x.mark) ++ R)
  ok : slotsOk (L1 ++ R)
  low : ∀ x, x ∈ L1 → x.mark = false → x.key < key
  wd : ∀ p, 0 ≤ m p ∧ m p < 18446744073709551616

def kept (L : List Nd) : List Nd := L.filter (fun x => !x.mark)

/-- Where a lane that goes on alone stands. -/
def LaneAt (root key : Int) (vals : Bool) (m : Mem) (L1 R : List Nd) (x : Lane) : Prop :=
  x.level = 0 ∧ x.key = key ∧ x.vals = vals ∧ x.at_.place = endP 0 (rootP root) (kept L1) ∧ x.found = (decide (x.pc = 7) || decide (x.pc = 8)) ∧
  (x.pc = 0 ∧ L1 = [] ∧ x.who.slot = 0 ∨ x.pc = 1 ∧ L1 = [] ∧ x.into.word = m x.at_.place ∧ x.who.slot = 0 ∨
    ∃ y R', R = y :: R' ∧ x.who.slot = y.slot ∧ x.into.word = m x.at_.place ∧
      (x.pc = 2 ∨ x.pc = 3 ∧ x.out.word = m (cellP y.slot 7) ∨ x.pc = 4 ∧ x.out.word = m (cellP y.slot 7) ∧ y.mark = true ∨
       x.pc = 5 ∧ x.out.word = m (cellP y.slot 7) ∧ y.mark = false ∨ x.pc = 6 ∧ x.out.word = m (cellP y.slot 7) ∧ y.mark = false ∧ x.k.word = y.key ∨
       x.pc = 7 ∧ y.mark = false ∧ y.key = key ∧ vals = true ∨ x.pc = 8 ∧ y.mark = false ∧ y.key = key ∧ x.v.word = y.val ∧ vals = true))

def laneLeft (x : Lane) (R : List Nd) : Nat :=
  if x.pc = 0 then 4 * R.length + 4 else if x.pc = 1 then 4 * R.length + 3 else if x.pc = 2 then 4 * R.length + 2 else if x.pc = 3 then 4 * R.length + 1 else if x.pc = 4 ∨ x.pc = 5 then 4 * R.length
  else if x.pc = 6 then 4 * R.length - 1 else if x.pc = 7 then 2 else 1

/-- How a lane alone ends. -/
def LaneEnd (root key : Int) (vals : Bool) (R : List Nd) (L1 : List Nd) (x : Lane) : Prop :=
  x.at_.place = endP 0 (rootP root) (kept L1) ∧ ((R = [] ∧ x.found = false) ∨ ∃ y R', R = y :: R' ∧ y.mark = false ∧ key ≤ y.key ∧ x.found = decide (y.key = key) ∧ (vals = true → y.key = key → x.v.word = y.val))

theorem kept_snoc_mark {L : List Nd} {y : Nd} (h : y.mark = true) : kept (L ++ [y]) = kept L := by simp [kept, h]
theorem kept_snoc {L : List Nd} {y : Nd} (h : y.mark = false) : kept (L ++ [y]) = kept L ++ [y] := by simp [kept, h]
theorem kept_mark {L : List Nd} {y : Nd} (h : y ∈ kept L) : y.mark = false := by simpa [kept] using (List.mem_filter.1 h).2
theorem kept_sub {L : List Nd} {y : Nd} (h : y ∈ kept L) : y ∈ L := (List.mem_filter.1 h).1
theorem slotsOk.kept {L R : List Nd} (h : slotsOk (L ++ R)) : slotsOk (kept L ++ R) := by
  refine ⟨h.1.sublist (List.Sublist.map _ (List.Sublist.append_right List.filter_sublist _)), fun x hx => h.2 x ?_⟩
  rcases List.mem_append.1 hx with hx | hx
  · exact List.mem_append_left _ (kept_sub hx)
  · exact List.mem_append_right _ hx

theorem Way.here {key : Int} {m : Mem} {root : Int} {L1 R : List Nd} (h : Way key m root L1 R) : Chain m 0 (endP 0 (rootP root) (kept L1)) false R := by
  obtain ⟨mk', h1, h2⟩ := Chain.append h.chain
  have : mk' = false := by
    rw [h2]
    cases hl : (L1.filter (fun x => !x.mark)).getLast? with
    | none => rfl
    | some z =>
      have := List.mem_of_getLast? hl
      simpa using kept_mark this
  rw [this] at h1
  exact h1

theorem lane_step {root key e r : Int} {vals : Bool} {m : Mem} {L1 R : List Nd} {x : Lane} (hw : Way key m root L1 R) (hx : LaneAt root key vals m L1 R x) (he : m epochP = IntKind.u64.wrap e) (heb : 0 ≤ e ∧ e ≤ 1099511627775) :
    ∃ L1' R', L1' ++ R' = L1 ++ R ∧ (x.step e r m).r = r ∧ Way key (upd m (x.step e r m).wr) root L1' R' ∧ upd m (x.step e r m).wr epochP = m epochP ∧
      ((x.step e r m).st = 0 ∧ LaneAt root key vals (upd m (x.step e r m).wr) L1' R' (x.step e r m).x ∧ laneLeft (x.step e r m).x R' < laneLeft x R ∨
       (x.step e r m).st = 1 ∧ LaneEnd root key vals R' L1' (x.step e r m).x) := by
  obtain ⟨h1, h2, h3, h4, h5, h6⟩ := hx
  have hch := hw.here
  rw [← h4] at hch
  -- coming to the rest R of the list, by the link w that leads there
  have comes : ∀ (m' : Mem) (L1' R' : List Nd) (x0 : Lane) (w : Val), Way key m' root L1' R' → x0.level = 0 → x0.key = key → x0.vals = vals → x0.at_.place = endP 0 (rootP root) (kept L1') → x0.found = false → w.word = m' x0.at_.place →
      (comeSt w = 0 ∧ LaneAt root key vals m' L1' R' (x0.come w) ∧ laneLeft (x0.come w) R' = 4 * R'.length + 2) ∨ (comeSt w = 1 ∧ LaneEnd root key vals R' L1' (x0.come w)) := by
    intro m' L1' R' x0 w hw' g1 g2 g3 g4 g5 g6
    have hc := hw'.here
    rw [← g4] at hc
    have hsl := hc.slot
    rw [← g6] at hsl
    cases R' with
    | nil =>
      right
      simp only [List.head?_nil, Option.map_none, Option.getD_none] at hsl
      refine ⟨by simp [comeSt, hsl], g4, .inl ⟨rfl, g5⟩⟩
    | cons y R' =>
      left
      simp only [List.head?_cons, Option.map_some, Option.getD_some] at hsl
      have hy := (hw'.ok.2 y (by simp)).1
      have hne : ¬ wslot w.word = 0 := by omega
      refine ⟨by simp [comeSt, hne], ⟨g1, g2, g3, g4, by simp [Lane.come, g5], .inr (.inr ⟨y, R', rfl, ?_, g6, .inl rfl⟩)⟩, by simp [laneLeft, Lane.come]⟩
      show (if wslot w.word = 0 then (⟨0, 0⟩ : Who) else ⟨wslot w.word, w.id⟩).slot = y.slot
      rw [if_neg hne, hsl]
  rcases h6 with ⟨hpc, rfl, hs0⟩ | ⟨hpc, rfl, hi, hs0⟩ | ⟨y, R', rfl, hs, hi, h6⟩
  · -- 0
    refine ⟨[], R, rfl, ?_⟩
    have hst : x.step e r m = ⟨0, { x with pc := 1, into := ⟨m x.at_.place, 0, false⟩ }, r, none, true⟩ := by
      simp [Lane.step, hpc]
    rw [hst]
    refine ⟨rfl, hw, rfl, .inl ⟨rfl, ⟨h1, h2, h3, h4, by simp [h5, hpc], .inr (.inl ⟨rfl, rfl, rfl, hs0⟩)⟩, by simp [laneLeft, hpc]⟩⟩
  · -- 1
    refine ⟨[], R, rfl, ?_⟩
    have hmk : marked x.into.word = false := by rw [hi]; exact hch.mark
    have hst : x.step e r m = ⟨comeSt x.into, x.come x.into, r, none, true⟩ := by
      simp [Lane.step, hpc, he, Lane.hold, hmk]
    rw [hst]
    refine ⟨rfl, hw, rfl, ?_⟩
    have hf : x.found = false := by simp [h5, hpc]
    rcases comes m [] R x x.into hw h1 h2 h3 h4 hf hi with ⟨c1, c2, c3⟩ | ⟨c1, c2⟩
    · exact .inl ⟨c1, c2, by rw [c3]; simp [laneLeft, hpc]⟩
    · exact .inr ⟨c1, c2⟩
  · have hyk : y.slot ≠ 0 := by have := (hw.ok.2 y (by simp)).1; omega
    obtain ⟨k1, k2, k3, k4, k5⟩ := hch
    simp only [Int.add_zero] at k5
    have hnx : x.next.place = cellP y.slot 7 := by simp [Lane.next, hs, h1]
    rcases h6 with hpc | ⟨hpc, ho⟩ | ⟨hpc, ho, hm⟩ | ⟨hpc, ho, hm⟩ | ⟨hpc, ho, hm, hk⟩ | ⟨hpc, hm, hk, hvl⟩ | ⟨hpc, hm, hk, hv, hvl⟩
    · -- 2
      refine ⟨L1, y :: R', rfl, ?_⟩
      have hst : x.step e r m = ⟨0, { x with pc := 3, out := ⟨m (cellP y.slot 7), 0, false⟩ }, r, none, true⟩ := by
        simp [Lane.step, hpc, hnx]
      rw [hst]
      exact ⟨rfl, hw, rfl, .inl ⟨rfl, ⟨h1, h2, h3, h4, by simp [h5, hpc], .inr (.inr ⟨y, R', rfl, hs, hi, .inr (.inl ⟨rfl, rfl⟩)⟩)⟩, by simp [laneLeft, hpc]⟩⟩
    · -- 3
      refine ⟨L1, y :: R', rfl, ?_⟩
      have hmk : marked x.out.word = y.mark := by rw [ho]; exact k5.mark
      have hst : x.step e r m = ⟨0, { x with pc := if y.mark then 4 else 5 }, r, none, true⟩ := by
        simp [Lane.step, hpc, he, Lane.hold, hmk]
      rw [hst]
      cases hm : y.mark with
      | true => exact ⟨rfl, hw, rfl, .inl ⟨rfl, ⟨h1, h2, h3, h4, by simp [h5, hpc], .inr (.inr ⟨y, R', rfl, hs, hi, .inr (.inr (.inl ⟨rfl, ho, hm⟩))⟩)⟩, by simp [laneLeft, hpc]⟩⟩
      | false => exact ⟨rfl, hw, rfl, .inl ⟨rfl, ⟨h1, h2, h3, h4, by simp [h5, hpc], .inr (.inr ⟨y, R', rfl, hs, hi, .inr (.inr (.inr (.inl ⟨rfl, ho, hm⟩)))⟩)⟩, by simp [laneLeft, hpc]⟩⟩
    · -- 4: cut
      refine ⟨L1 ++ [y], R', by simp, ?_⟩
      have hst : x.step e r m = ⟨comeSt (x.cutV e), x.come (x.cutV e), r, some (x.at_.place, (x.cutV e).word), false⟩ := by
        simp [Lane.step, hpc, hi]
      rw [hst]
      have hsl : wslot x.out.word = (R'.head?.map (·.slot)).getD 0 := by rw [ho]; exact k5.slot
      have hb := wslot_bounds x.out.word
      have c1 : wslot (x.cutV e).word = (R'.head?.map (·.slot)).getD 0 := by
        rw [← hsl]; exact wslot_lword ⟨hb.1, hb.2, heb.1, heb.2⟩
      have c2 : marked (x.cutV e).word = false := marked_lword ⟨hb.1, hb.2, heb.1, heb.2⟩
      have hcut := Chain.cut (root := root) (w := (x.cutV e).word) (W := kept L1) (Int.le_refl 0) (fun z hz => kept_mark hz) hw.ok.kept (.inl rfl) hw.chain c1 (by rw [c2]; split <;> rfl)
      rw [← h4] at hcut
      have hep : (upd m (some (x.at_.place, (x.cutV e).word))) epochP = m epochP := by
        simp only [upd]
        rw [if_neg]
        rw [h4]
        rcases endP_cases 0 (kept L1) (rootP root) with ⟨h', _⟩ | ⟨z, _, h'⟩ <;> rw [h'] <;> simp [epochP, rootP, cellP]
      have hw' : Way key (upd m (some (x.at_.place, (x.cutV e).word))) root (L1 ++ [y]) R' := by
        refine ⟨?_, by simpa using hw.ok, ?_, ?_⟩
        · show Chain _ 0 _ _ (kept (L1 ++ [y]) ++ R')
          rw [kept_snoc_mark hm]; exact hcut
        · intro z hz hzm
          rcases List.mem_append.1 hz with hz | hz
          · exact hw.low z hz hzm
          · simp only [List.mem_singleton] at hz; rw [hz, hm] at hzm; cases hzm
        · intro q
          simp only [upd]
          split
          · exact lword_bounds ..
          · exact hw.wd q
      have hf : x.found = false := by simp [h5, hpc]
      refine ⟨rfl, hw', hep, ?_⟩
      rcases comes _ (L1 ++ [y]) R' x (x.cutV e) hw' h1 h2 h3 (by rw [kept_snoc_mark hm]; exact h4) hf (by simp [upd]) with ⟨d1, d2, d3⟩ | ⟨d1, d2⟩
      · exact .inl ⟨d1, d2, by rw [d3]; simp [laneLeft, hpc]; omega⟩
      · exact .inr ⟨d1, d2⟩
    · -- 5
      refine ⟨L1, y :: R', rfl, ?_⟩
      have hst : x.step e r m = ⟨0, { x with pc := 6, k := ⟨m (cellP y.slot 3), 0, false⟩ }, r, none, true⟩ := by
        simp [Lane.step, hpc, hs]
      rw [hst]
      exact ⟨rfl, hw, rfl, .inl ⟨rfl, ⟨h1, h2, h3, h4, by simp [h5, hpc], .inr (.inr ⟨y, R', rfl, hs, hi, .inr (.inr (.inr (.inr (.inl ⟨rfl, ho, hm, k3⟩))))⟩)⟩, by simp [laneLeft, hpc]; omega⟩⟩
    · -- 6
      by_cases hlt : y.key < key
      · refine ⟨L1 ++ [y], R', by simp, ?_⟩
        have hst : x.step e r m = ⟨comeSt x.out, Lane.come { x with at_ := x.next } x.out, r, none, true⟩ := by
          simp [Lane.step, hpc, he, Lane.hold, Lane.compare, hk, h2, hlt]
        rw [hst]
        have hw' : Way key m root (L1 ++ [y]) R' := by
          refine ⟨?_, by simpa using hw.ok, ?_, hw.wd⟩
          · show Chain _ 0 _ _ (kept (L1 ++ [y]) ++ R')
            rw [kept_snoc hm, List.append_assoc]; exact hw.chain
          · intro z hz hzm
            rcases List.mem_append.1 hz with hz | hz
            · exact hw.low z hz hzm
            · simp only [List.mem_singleton] at hz; rw [hz]; exact hlt
        have hf : x.found = false := by simp [h5, hpc]
        have ha : x.next.place = endP 0 (rootP root) (kept (L1 ++ [y])) := by
          rw [kept_snoc hm, endP_snoc, hnx]; rfl
        refine ⟨rfl, hw', rfl, ?_⟩
        rcases comes m (L1 ++ [y]) R' { x with at_ := x.next } x.out hw' h1 h2 h3 ha hf (by rw [ho]; exact congrArg m hnx.symm) with ⟨d1, d2, d3⟩ | ⟨d1, d2⟩
        · exact .inl ⟨d1, d2, by rw [d3]; simp [laneLeft, hpc]; omega⟩
        · exact .inr ⟨d1, d2⟩
      · refine ⟨L1, y :: R', rfl, ?_⟩
        by_cases hfd : y.key = key ∧ vals = true
        · have hst : x.step e r m = ⟨0, { x with found := true, pc := 7 }, r, none, true⟩ := by
            simp [Lane.step, hpc, he, Lane.hold, Lane.compare, hk, h2, h3, hfd.1, hfd.2]
          rw [hst]
          exact ⟨rfl, hw, rfl, .inl ⟨rfl, ⟨h1, h2, h3, h4, by simp, .inr (.inr ⟨y, R', rfl, hs, hi, .inr (.inr (.inr (.inr (.inr (.inl ⟨rfl, hm, hfd.1, hfd.2⟩)))))⟩)⟩, by simp [laneLeft, hpc]; omega⟩⟩
        · have hst : x.step e r m = ⟨1, { x with found := decide (y.key = key) }, r, none, true⟩ := by
            have hfd' : ¬ (x.k.word = x.key ∧ x.vals = true) := by rw [hk, h2, h3]; exact hfd
            have hlt' : ¬ x.k.word < x.key := by rw [hk, h2]; exact hlt
            simp [Lane.step, hpc, he, Lane.hold, Lane.compare, hlt', hfd']
            rw [hk, h2]
          rw [hst]
          exact ⟨rfl, hw, rfl, .inr ⟨rfl, h4, .inr ⟨y, R', rfl, hm, by omega, rfl, fun hv hk' => absurd ⟨hk', hv⟩ hfd⟩⟩⟩
    · -- 7
      refine ⟨L1, y :: R', rfl, ?_⟩
      have hst : x.step e r m = ⟨0, { x with pc := 8, v := ⟨m (cellP y.slot 4), 0, false⟩ }, r, none, true⟩ := by
        simp [Lane.step, hpc, hs]
      rw [hst]
      exact ⟨rfl, hw, rfl, .inl ⟨rfl, ⟨h1, h2, h3, h4, by simp [h5, hpc], .inr (.inr ⟨y, R', rfl, hs, hi, .inr (.inr (.inr (.inr (.inr (.inr ⟨rfl, hm, hk, k4, hvl⟩)))))⟩)⟩, by simp [laneLeft, hpc]⟩⟩
    · -- 8
      refine ⟨L1, y :: R', rfl, ?_⟩
      have hst : x.step e r m = ⟨1, x, r, none, true⟩ := by
        simp [Lane.step, hpc, he, Lane.hold]
      rw [hst]
      exact ⟨rfl, hw, rfl, .inr ⟨rfl, h4, .inr ⟨y, R', rfl, hm, by omega, by simp [h5, hpc, hk], fun _ _ => hv⟩⟩⟩
end Go.Proofs.YtbfplncdmbjjhaaGreat
