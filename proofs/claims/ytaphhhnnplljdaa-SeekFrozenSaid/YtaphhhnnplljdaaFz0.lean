/-
  A search behind which the epoch goes on, plainly: what it loads from then on plays no part.
-/
import Derived.Test.YtaphhhnnplljdaaSk9
set_option linter.unusedSimpArgs false
set_option linter.unusedVariables false
namespace Go.Proofs.Ytaphhhnnplljdaa
open Go Go.SL

/-- Two searches at the same memory behind the disturbance. -/
structure FInv (key : Int) (m : Mem) (s1 s2 : SSt) (n : Nat) : Prop where
  some1 : s1.some = true
  some2 : s2.some = true
  alt : (∃ R, Way key m 0 [] R ∧ m epochP = 10 ∧ s1.r = s2.r ∧
      ((s1.on = true ∧ s2.on = true ∧ s1.e = 9 ∧ s2.e = 9 ∧ s1.x.pc = s2.x.pc ∧ ((s1.x.pc = 3 ∨ s1.x.pc = 6) ∧ 4 * R.length + 7 ≤ n ∨ s1 = s2 ∧ s1.x.pc = 2 ∧ 4 * R.length + 8 ≤ n)) ∨
        (s1.on = false ∧ s2.on = false ∧ 4 * R.length + 6 ≤ n))) ∨
    (s1 = s2 ∧ ∃ L1 R, SInv 0 key 10 false m s1 L1 R ∧ sLeft s1 R ≤ n)

theorem SSt.step_stale {root key : Int} {vals : Bool} {s : SSt} {m : Mem} (hon : s.on = true) (he : s.e = 9) (hm : m epochP = 10) (hpc : s.x.pc = 3 ∨ s.x.pc = 6) :
    s.step root key vals m = ⟨0, ⟨false, s.some, s.x, s.e, inc s.r⟩, none, true⟩ := by
  have hl : s.x.step s.e s.r m = ⟨2, s.x, inc s.r, none, true⟩ := by
    unfold Lane.step
    rw [if_neg (by omega), if_neg (by omega), if_neg (by omega), if_neg (by omega), if_neg (by omega), if_neg]
    rw [he, hm]
    decide
  unfold SSt.step
  rw [if_pos hon, hl]
  rfl

theorem SSt.step_begin {root key : Int} {vals : Bool} {s : SSt} {m : Mem} (hon : s.on = false) (hm : m epochP = 10) :
    s.step root key vals m = ⟨0, ⟨true, true, newLane ⟨rootP root, 0⟩ 0 key vals, 10, s.r⟩, none, true⟩ := by
  unfold SSt.step
  rw [if_neg (by simp [hon]), hm]
  rfl

theorem SSt.step_next {root key : Int} {vals : Bool} {s : SSt} {m : Mem} (hon : s.on = true) (hpc : s.x.pc = 2) :
    s.step root key vals m = ⟨0, { s with on := true, x := { s.x with pc := 3, out := ⟨m s.x.next.place, 0, false⟩ } }, none, true⟩ := by
  have hl : s.x.step s.e s.r m = ⟨0, { s.x with pc := 3, out := ⟨m s.x.next.place, 0, false⟩ }, s.r, none, true⟩ := by
    unfold Lane.step
    rw [if_neg (by omega), if_pos hpc]
  unfold SSt.step
  rw [if_pos hon, hl]
  rfl

theorem SSt.step_key {root key : Int} {vals : Bool} {s : SSt} {m : Mem} (hon : s.on = true) (hpc : s.x.pc = 5) :
    s.step root key vals m = ⟨0, { s with on := true, x := { s.x with pc := 6, k := ⟨m (cellP s.x.who.slot 3), 0, false⟩ } }, none, true⟩ := by
  have hl : s.x.step s.e s.r m = ⟨0, { s.x with pc := 6, k := ⟨m (cellP s.x.who.slot 3), 0, false⟩ }, s.r, none, true⟩ := by
    unfold Lane.step
    rw [if_neg (by omega), if_neg (by omega), if_pos hpc]
  unfold SSt.step
  rw [if_pos hon, hl]
  rfl

theorem SInv.begun {key : Int} {m : Mem} {R : List Nd} {r : Int} (hw : Way key m 0 [] R) (hm : m epochP = 10) :
    SInv 0 key 10 false m ⟨true, true, newLane ⟨rootP 0, 0⟩ 0 key false, 10, r⟩ [] R :=
  ⟨hw, hm, .inr ⟨rfl, rfl, rfl, rfl, rfl, rfl, rfl, rfl, .inl ⟨rfl, rfl, rfl⟩⟩⟩

theorem fstep {key : Int} {m : Mem} {s1 s2 : SSt} {n : Nat} (h : FInv key m s1 s2 n) :
    1 ≤ n ∧ (s1.step 0 key false m).st = (s2.step 0 key false m).st ∧ (s1.step 0 key false m).wr = (s2.step 0 key false m).wr ∧
      ((s1.step 0 key false m).st = 0 ∧ FInv key (upd m (s1.step 0 key false m).wr) (s1.step 0 key false m).s (s2.step 0 key false m).s (n - 1) ∨
       (s1.step 0 key false m).st = 1 ∧ (s1.step 0 key false m).s = (s2.step 0 key false m).s ∧ (s1.step 0 key false m).s.some = true) := by
  obtain ⟨hs1, hs2, h⟩ := h
  rcases h with ⟨R, hw, hm, hr, ⟨on1, on2, e1, e2, hpc, h⟩ | ⟨on1, on2, hn⟩⟩ | ⟨rfl, L1, R, hI, hn⟩
  · rcases h with ⟨hp, hn⟩ | ⟨rfl, hp, hn⟩
    · rw [SSt.step_stale on1 e1 hm hp, SSt.step_stale on2 e2 hm (by rw [← hpc]; exact hp)]
      exact ⟨by omega, rfl, rfl, .inl ⟨rfl, hs1, hs2, .inl ⟨R, hw, hm, by dsimp only; rw [hr], .inr ⟨rfl, rfl, by omega⟩⟩⟩⟩
    · rw [SSt.step_next on1 hp]
      exact ⟨by omega, rfl, rfl, .inl ⟨rfl, hs1, hs1, .inl ⟨R, hw, hm, rfl, .inl ⟨rfl, rfl, e1, e1, rfl, .inl ⟨.inl rfl, by omega⟩⟩⟩⟩⟩
  · rw [SSt.step_begin on1 hm, SSt.step_begin on2 hm]
    refine ⟨by omega, rfl, rfl, .inl ⟨rfl, rfl, rfl, .inr ⟨by rw [hr], [], R, SInv.begun hw hm, ?_⟩⟩⟩
    simp [sLeft, laneLeft, newLane]
    omega
  · have hp := hI.pos
    obtain ⟨L1', R', _, hsome, hnx⟩ := sstep hI (by decide)
    refine ⟨by omega, rfl, rfl, ?_⟩
    rcases hnx with ⟨g1, g2, g3⟩ | ⟨g1, _, _⟩
    · exact .inl ⟨g1, hsome, hsome, .inr ⟨rfl, L1', R', g2, by omega⟩⟩
    · exact .inr ⟨g1, rfl, hsome⟩

theorem Way.keptAll {key : Int} {m : Mem} {root : Int} {L1 R : List Nd} (h : Way key m root L1 R) {m' : Mem} (hm : ∀ q, q ≠ epochP → m' q = m q) (he : Wd (m' epochP)) : Way key m' root [] (kept L1 ++ R) := by
  have hc : ∀ s n, m' (cellP s n) = m (cellP s n) := fun s n => hm _ (by simp [cellP, epochP])
  refine ⟨?_, h.ok.kept, (fun x hx => by cases hx), ?_⟩
  · exact Chain.frame h.chain (hm _ (by simp [rootP, epochP])) fun x _ => ⟨hc _ _, hc _ _, hc _ _⟩
  · intro p
    by_cases hp : p = epochP
    · rw [hp]; exact he
    · rw [hm p hp]; exact h.wd p

/-- One step at two memories that differ but at the slot where it is. -/
theorem fdist {key : Int} {m mA mB : Mem} {s : SSt} {L1 R : List Nd} (h : SInv 0 key 9 false m s L1 R) (hsome : s.some = true) (hlen : (L1 ++ R).length ≤ 40) (hwho : s.on = true → s.x.who.slot ≠ 0)
    (hA : mA epochP = 10) (hB : mB epochP = 10) (hAm : ∀ q, q ≠ epochP → q ≠ cellP s.x.who.slot 3 → q ≠ cellP s.x.who.slot 7 → mA q = m q) (hBm : ∀ q, q ≠ epochP → q ≠ cellP s.x.who.slot 3 → q ≠ cellP s.x.who.slot 7 → mB q = m q) :
    (s.step 0 key false mA).st = (s.step 0 key false mB).st ∧ (s.step 0 key false mA).wr = (s.step 0 key false mB).wr ∧
      (∀ p w, (s.step 0 key false mA).wr = some (p, w) → p ≠ epochP ∧ p ≠ cellP s.x.who.slot 3 ∧ p ≠ cellP s.x.who.slot 7) ∧
      ∀ m', m' epochP = 10 → (∀ q, q ≠ epochP → m' q = upd m (s.step 0 key false mA).wr q) →
        ((s.step 0 key false mA).st = 0 ∧ FInv key m' (s.step 0 key false mA).s (s.step 0 key false mB).s 400 ∨
         (s.step 0 key false mA).st = 1 ∧ (s.step 0 key false mA).s = (s.step 0 key false mB).s ∧ (s.step 0 key false mA).s.some = true) := by
  obtain ⟨hw, hep, hst⟩ := h
  have hkl : (kept L1 ++ R).length ≤ 40 := by
    have h1 : (kept L1).length ≤ L1.length := List.length_filter_le ..
    simp only [List.length_append] at hlen ⊢
    omega
  rcases hst with ⟨hon, rfl⟩ | ⟨hon, _, hse, hla⟩
  · rw [SSt.step_begin hon hA, SSt.step_begin hon hB]
    refine ⟨rfl, rfl, fun p w h => (by cases h), fun m' hm' hmq => .inl ⟨rfl, rfl, rfl, .inr ⟨rfl, [], kept [] ++ R, SInv.begun (hw.keptAll hmq (by rw [hm']; exact ⟨by decide, by decide⟩)) hm', ?_⟩⟩⟩
    simp [sLeft, laneLeft, newLane, kept] at hkl ⊢
    omega
  · have hls := hla
    obtain ⟨h1, h2, h3, h4, h5, h6⟩ := hla
    have hw1 := hwho hon
    rcases h6 with ⟨_, _, hs0⟩ | ⟨_, _, _, hs0⟩ | ⟨y, R', rfl, hs, hi, h6⟩
    · exact absurd hs0 hw1
    · exact absurd hs0 hw1
    have hno : ∀ (s' : SSt → Mem → SS) , True := fun _ => trivial
    rcases h6 with hpc | ⟨hpc, ho⟩ | ⟨hpc, ho, hm⟩ | ⟨hpc, ho, hm⟩ | ⟨hpc, ho, hm, hk⟩ | ⟨_, _, _, hvl⟩ | ⟨_, _, _, _, hvl⟩
    · rw [SSt.step_next hon hpc, SSt.step_next hon hpc]
      exact ⟨rfl, rfl, fun p w h => (by cases h), fun m' hm' hmq => .inl ⟨rfl, hsome, hsome, .inl ⟨_, hw.keptAll hmq (by rw [hm']; exact ⟨by decide, by decide⟩), hm', rfl, .inl ⟨rfl, rfl, hse, hse, rfl, .inl ⟨.inl rfl, by omega⟩⟩⟩⟩⟩
    · rw [SSt.step_stale hon hse hA (.inl hpc), SSt.step_stale hon hse hB (.inl hpc)]
      exact ⟨rfl, rfl, fun p w h => (by cases h), fun m' hm' hmq => .inl ⟨rfl, hsome, hsome, .inl ⟨_, hw.keptAll hmq (by rw [hm']; exact ⟨by decide, by decide⟩), hm', rfl, .inr ⟨rfl, rfl, by omega⟩⟩⟩⟩
    · -- the cut
      have hat : s.x.at_.place ≠ epochP ∧ s.x.at_.place ≠ cellP s.x.who.slot 3 ∧ s.x.at_.place ≠ cellP s.x.who.slot 7 := by
        rw [h4, hs]
        rcases endP_cases 0 (kept L1) (rootP 0) with ⟨h', _⟩ | ⟨z, hz, h'⟩
        · rw [h']; simp [rootP, cellP, epochP]
        · rw [h']
          refine ⟨by simp [cellP, epochP], by simp [cellP], ?_⟩
          rw [Ne, cellP_inj]
          rintro ⟨h9, _⟩
          have hnd := hw.ok.1
          rw [List.map_append, List.nodup_append] at hnd
          exact hnd.2.2 z.slot (List.mem_map_of_mem (kept_sub hz)) y.slot (by simp) h9
      have hAw : mA s.x.at_.place = s.x.into.word := by rw [hAm _ hat.1 hat.2.1 hat.2.2, hi]
      have hBw : mB s.x.at_.place = s.x.into.word := by rw [hBm _ hat.1 hat.2.1 hat.2.2, hi]
      have hstep : ∀ mm : Mem, mm s.x.at_.place = s.x.into.word → s.x.step s.e s.r mm = ⟨comeSt (s.x.cutV s.e), s.x.come (s.x.cutV s.e), s.r, some (s.x.at_.place, (s.x.cutV s.e).word), false⟩ := by
        intro mm hmm
        simp [Lane.step, hpc, hmm]
      obtain ⟨L1', R'', g1, g2, g3, g4, g5⟩ := lane_step (e := s.e) (r := s.r) hw hls (by rw [hse, hep]; decide) (by rw [hse]; decide)
      rw [hstep m hi.symm] at g3 g5
      have hS : ∀ mm : Mem, mm s.x.at_.place = s.x.into.word → s.step 0 key false mm = ⟨comeSt (s.x.cutV s.e), { s with on := true, x := s.x.come (s.x.cutV s.e) }, some (s.x.at_.place, (s.x.cutV s.e).word), false⟩ := by
        intro mm hmm
        have hne : comeSt (s.x.cutV s.e) ≠ 2 := by unfold comeSt; split <;> omega
        unfold SSt.step
        rw [if_pos hon, hstep mm hmm]
        simp [hne]
      rw [hS mA hAw, hS mB hBw]
      refine ⟨rfl, rfl, fun p w h => ?_, fun m' hm' hmq => ?_⟩
      · simp only [Option.some.injEq, Prod.mk.injEq] at h
        rw [← h.1]; exact hat
      · rcases g5 with ⟨c1, c2, _⟩ | ⟨c1, c2⟩
        · refine .inl ⟨c1, hsome, hsome, .inl ⟨_, g3.keptAll hmq (by rw [hm']; exact ⟨by decide, by decide⟩), hm', rfl, .inl ⟨rfl, rfl, hse, hse, rfl, .inr ⟨rfl, rfl, ?_⟩⟩⟩⟩
          have h9 : (kept L1').length ≤ L1'.length := List.length_filter_le ..
          have h8 : (L1' ++ R'').length ≤ 40 := by rw [g1]; exact hlen
          simp only [List.length_append] at h8 ⊢
          omega
        · exact .inr ⟨c1, rfl, hsome⟩
    · rw [SSt.step_key hon hpc, SSt.step_key hon hpc]
      exact ⟨rfl, rfl, fun p w h => (by cases h), fun m' hm' hmq => .inl ⟨rfl, hsome, hsome, .inl ⟨_, hw.keptAll hmq (by rw [hm']; exact ⟨by decide, by decide⟩), hm', rfl, .inl ⟨rfl, rfl, hse, hse, rfl, .inl ⟨.inr rfl, by omega⟩⟩⟩⟩⟩
    · rw [SSt.step_stale hon hse hA (.inr hpc), SSt.step_stale hon hse hB (.inr hpc)]
      exact ⟨rfl, rfl, fun p w h => (by cases h), fun m' hm' hmq => .inl ⟨rfl, hsome, hsome, .inl ⟨_, hw.keptAll hmq (by rw [hm']; exact ⟨by decide, by decide⟩), hm', rfl, .inr ⟨rfl, rfl, by omega⟩⟩⟩⟩
    · cases hvl
    · cases hvl
end Go.Proofs.Ytaphhhnnplljdaa
