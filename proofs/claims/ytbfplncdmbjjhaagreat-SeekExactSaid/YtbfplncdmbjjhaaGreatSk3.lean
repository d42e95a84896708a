/-
  Walks: a lane's step, a search's.
-/
import Derived.Test.YtbfplncdmbjjhaaGreatSk2
set_option linter.unusedSimpArgs false
set_option linter.unusedVariables false
namespace Go.Proofs.YtbfplncdmbjjhaaGreat
open Go Go.SL

def ldK (k : Count) (ld is : Bool) : Count := if ld then { k with loads := inc k.loads } else swapK k is

theorem LaneOk.come {x : Lane} (hx : LaneOk x) {w : Val} (hw : Wd w.word) : LaneOk (x.come w) := ⟨hx.lv, hw, (by decide : Wd 0)⟩
theorem LaneOk.step {x : Lane} (hx : LaneOk x) {e r : Int} {m : Mem} (hm : ∀ p, Wd (m p)) : LaneOk (x.step e r m).x := by
  obtain ⟨h1, h2, h3⟩ := hx
  unfold Lane.step
  split
  · exact ⟨h1, hm _, h3⟩
  split
  · exact ⟨h1, h2, hm _⟩
  split
  · exact ⟨h1, h2, h3⟩
  split
  · exact ⟨h1, h2, h3⟩
  split
  · split
    · exact LaneOk.come ⟨h1, h2, h3⟩ (lword_bounds ..)
    · exact ⟨h1, h2, h3⟩
  split
  · show LaneOk x.hold.2
    unfold Lane.hold
    split
    · split
      · exact ⟨h1, h2, h3⟩
      · exact LaneOk.come ⟨h1, h2, h3⟩ h2
    split
    · exact ⟨h1, h2, h3⟩
    split
    · unfold Lane.compare
      split
      · exact LaneOk.come (x := { x with at_ := x.next }) ⟨h1, h2, h3⟩ h3
      split
      · exact ⟨h1, h2, h3⟩
      · exact ⟨h1, h2, h3⟩
    · exact ⟨h1, h2, h3⟩
  · exact ⟨h1, h2, h3⟩

theorem lane_Step (B : World) (lb cb qb : Nat) (xc : Conf) (e : Int) (h : Who) (r : Int) (x : Lane) (hx : LaneOk x) (A : Atom) (wb : Nat) (k : Count) (l : List (Plc × Int)) (hA : PlainIs A wb l k) :
    Ctr Tryz.prog 17 [ptr lb, wI wb] B [laneA lb cb x, coreA cb qb xc e h r, A]
      (fun u c => ∃ A', PlainIs A' wb (wrl l (x.step e r (mem l)).wr) (ldK k (x.step e r (mem l)).ld (x.step e r (mem l)).wr.isSome) ∧
        u = .int .i64 (x.step e r (mem l)).st ∧ c = [laneA lb cb (x.step e r (mem l)).x, coreA cb qb xc e h (x.step e r (mem l)).r, A']) := by
  refine Ctr.intro (n := 67) Tryz.func17 rfl Tryz.ntmps17 (Nat.le_of_ble_eq_true rfl) ?_
  refine W_seq ?_
  refine W_reg rfl ?_
  refine O_qs (q_assign rfl) ?_
  refine O_nil ?_
  refine W_seq ?_
  refine W_seq ?_
  refine W_reg rfl ?_
  refine O_qs (q_move rfl) ?_
  refine O_qs (q_eqnil Tryz.runUnderlying48 rfl rfl) ?_
  refine O_nil ?_
  refine W_false rfl ?_
  refine W_skip ?_
  refine W_seq ?_
  refine W_seq ?_
  refine W_reg rfl ?_
  refine O_qs (q_move rfl) ?_
  refine O_qs (q_nil rfl) ?_
  refine O_qs (q_fa fa_127_5 rfl) ?_
  refine O_qs (q_load Tryz.isAgg3 rfl (rd_chunk (by repeat (first | exact List.Mem.head _ | apply List.Mem.tail)) rfl)) ?_
  refine O_nil ?_
  refine W_block ?_
  refine W_seq ?_
  refine W_reg rfl ?_
  refine O_qs (q_eql rfl rfl) ?_
  refine O_qs (q_assign rfl) ?_
  refine O_nil ?_
  refine W_cond rfl ?_ ?_
  · intro hc
    have h0 : x.pc = 0 := of_decide_eq_true hc
    have hst : x.step e r (mem l) = ⟨0, { x with pc := 1, into := ⟨mem l x.at_.place, 0, false⟩ }, r, none, true⟩ := by simp [Lane.step, h0]
    refine W_reg rfl ?_
    refine O_qs (q_move rfl) ?_
    refine O_qs (q_move rfl) ?_
    refine O_qs (q_move rfl) ?_
    refine O_qs (q_move rfl) ?_
    refine O_qs (q_nil rfl) ?_
    refine O_qs (q_fa fa_127_1 rfl) ?_
    refine O_qs (q_loadN (vs := [_, _, _, _]) Tryz.isAgg54 Tryz.sizeOf54 rfl (rd_range (by repeat (first | exact List.Mem.head _ | apply List.Mem.tail)) rfl)) ?_
    refine O_es (e_cf Tryz.call63 rfl (fun wd hwd => (lane_load _ lb cb x A wb k l x.at_ hA (by omega))) (by repeat (first | exact Pick.nil | exact Take.here | apply Pick.cons | apply Take.there))) ?_
    rintro _ _ ⟨_, ⟨A', hA', rfl, rfl⟩, rfl⟩
    refine O_qs (q_nil rfl) ?_
    refine O_qs (q_fa fa_127_6 rfl) ?_
    refine O_en (e_storeN (vs := [_, _, _]) Tryz.sizeOf69 rfl rfl rfl (by repeat (first | exact Upd.here | apply Upd.there)) rfl (by simp only [setAll, List.setIfInBounds_toArray, List.set_cons_succ, List.set_cons_zero, Nat.reduceAdd, Nat.zero_add] <;> rfl)) ?_
    rintro _ _ ⟨rfl, rfl⟩
    refine O_nil ?_
    refine W_seq ?_
    refine W_reg rfl ?_
    refine O_qs (q_assign rfl) ?_
    refine O_nil ?_
    refine W_ret ?_
    refine res1 (c0 := [laneA lb cb { x with pc := x.pc + 1, into := ⟨mem l x.at_.place, 0, false⟩ }, coreA cb qb xc e h r, A']) rfl rfl (by repeat (first | exact Pick.nil | exact Take.here | apply Pick.cons | apply Take.there)) rfl ?_
    rw [hst, h0]
    exact ⟨A', hA', rfl, rfl⟩
  intro hc0
  have n0 : ¬ x.pc = 0 := of_decide_eq_false hc0
  refine W_seq ?_
  refine W_reg rfl ?_
  refine O_qs (q_eql rfl rfl) ?_
  refine O_qs (q_assign rfl) ?_
  refine O_nil ?_
  refine W_cond rfl ?_ ?_
  · intro hc
    have h0 : x.pc = 2 := of_decide_eq_true hc
    have hst : x.step e r (mem l) = ⟨0, { x with pc := 3, out := ⟨mem l x.next.place, 0, false⟩ }, r, none, true⟩ := by simp [Lane.step, h0]
    refine W_reg rfl ?_
    refine O_qs (q_move rfl) ?_
    refine O_qs (q_move rfl) ?_
    refine O_qs (q_move rfl) ?_
    refine O_qs (q_move rfl) ?_
    refine O_qs (q_cf Tryz.call64 rfl (fun wd hwd => (lane_next _ lb cb x hx)) (by repeat (first | exact Pick.nil | exact Take.here | apply Pick.cons | apply Take.there))) ?_
    refine O_es (e_cf Tryz.call63 rfl (fun wd hwd => (lane_load _ lb cb x A wb k l x.next hA (by omega))) (by repeat (first | exact Pick.nil | exact Take.here | apply Pick.cons | apply Take.there))) ?_
    rintro _ _ ⟨_, ⟨A', hA', rfl, rfl⟩, rfl⟩
    refine O_qs (q_nil rfl) ?_
    refine O_qs (q_fa fa_127_7 rfl) ?_
    refine O_en (e_storeN (vs := [_, _, _]) Tryz.sizeOf69 rfl rfl rfl (by repeat (first | exact Upd.here | apply Upd.there)) rfl (by simp only [setAll, List.setIfInBounds_toArray, List.set_cons_succ, List.set_cons_zero, Nat.reduceAdd, Nat.zero_add] <;> rfl)) ?_
    rintro _ _ ⟨rfl, rfl⟩
    refine O_nil ?_
    refine W_seq ?_
    refine W_reg rfl ?_
    refine O_qs (q_assign rfl) ?_
    refine O_nil ?_
    refine W_ret ?_
    refine res1 (c0 := [laneA lb cb { x with pc := x.pc + 1, out := ⟨mem l x.next.place, 0, false⟩ }, coreA cb qb xc e h r, A']) rfl rfl (by repeat (first | exact Pick.nil | exact Take.here | apply Pick.cons | apply Take.there)) rfl ?_
    rw [hst, h0]
    exact ⟨A', hA', rfl, rfl⟩
  intro hc2
  have n2 : ¬ x.pc = 2 := of_decide_eq_false hc2
  refine W_seq ?_
  refine W_reg rfl ?_
  refine O_qs (q_eql rfl rfl) ?_
  refine O_qs (q_assign rfl) ?_
  refine O_nil ?_
  refine W_cond rfl ?_ ?_
  · intro hc
    have h0 : x.pc = 5 := of_decide_eq_true hc
    have hst : x.step e r (mem l) = ⟨0, { x with pc := 6, k := ⟨mem l (cellP x.who.slot 3), 0, false⟩ }, r, none, true⟩ := by simp [Lane.step, h0]
    refine W_reg rfl ?_
    refine O_qs (q_move rfl) ?_
    refine O_qs (q_move rfl) ?_
    refine O_qs (q_move rfl) ?_
    refine O_qs (q_move rfl) ?_
    refine O_qs (q_cf Tryz.call65 rfl (fun wd hwd => (lane_cell _ lb cb x 3)) (by repeat (first | exact Pick.nil | exact Take.here | apply Pick.cons | apply Take.there))) ?_
    refine O_es (e_cf Tryz.call63 rfl (fun wd hwd => (lane_load _ lb cb x A wb k l ⟨cellP x.who.slot 3, x.who.id⟩ hA (by omega))) (by repeat (first | exact Pick.nil | exact Take.here | apply Pick.cons | apply Take.there))) ?_
    rintro _ _ ⟨_, ⟨A', hA', rfl, rfl⟩, rfl⟩
    refine O_qs (q_nil rfl) ?_
    refine O_qs (q_fa fa_127_8 rfl) ?_
    refine O_en (e_storeN (vs := [_, _, _]) Tryz.sizeOf69 rfl rfl rfl (by repeat (first | exact Upd.here | apply Upd.there)) rfl (by simp only [setAll, List.setIfInBounds_toArray, List.set_cons_succ, List.set_cons_zero, Nat.reduceAdd, Nat.zero_add] <;> rfl)) ?_
    rintro _ _ ⟨rfl, rfl⟩
    refine O_nil ?_
    refine W_seq ?_
    refine W_reg rfl ?_
    refine O_qs (q_assign rfl) ?_
    refine O_nil ?_
    refine W_ret ?_
    refine res1 (c0 := [laneA lb cb { x with pc := x.pc + 1, k := ⟨mem l (cellP x.who.slot 3), 0, false⟩ }, coreA cb qb xc e h r, A']) rfl rfl (by repeat (first | exact Pick.nil | exact Take.here | apply Pick.cons | apply Take.there)) rfl ?_
    rw [hst, h0]
    exact ⟨A', hA', rfl, rfl⟩
  intro hc5
  have n5 : ¬ x.pc = 5 := of_decide_eq_false hc5
  refine W_seq ?_
  refine W_reg rfl ?_
  refine O_qs (q_eql rfl rfl) ?_
  refine O_qs (q_assign rfl) ?_
  refine O_nil ?_
  refine W_cond rfl ?_ ?_
  · intro hc
    have h0 : x.pc = 7 := of_decide_eq_true hc
    have hst : x.step e r (mem l) = ⟨0, { x with pc := 8, v := ⟨mem l (cellP x.who.slot 4), 0, false⟩ }, r, none, true⟩ := by simp [Lane.step, h0]
    refine W_reg rfl ?_
    refine O_qs (q_move rfl) ?_
    refine O_qs (q_move rfl) ?_
    refine O_qs (q_move rfl) ?_
    refine O_qs (q_move rfl) ?_
    refine O_qs (q_cf Tryz.call65 rfl (fun wd hwd => (lane_cell _ lb cb x 4)) (by repeat (first | exact Pick.nil | exact Take.here | apply Pick.cons | apply Take.there))) ?_
    refine O_es (e_cf Tryz.call63 rfl (fun wd hwd => (lane_load _ lb cb x A wb k l ⟨cellP x.who.slot 4, x.who.id⟩ hA (by omega))) (by repeat (first | exact Pick.nil | exact Take.here | apply Pick.cons | apply Take.there))) ?_
    rintro _ _ ⟨_, ⟨A', hA', rfl, rfl⟩, rfl⟩
    refine O_qs (q_nil rfl) ?_
    refine O_qs (q_fa fa_127_9 rfl) ?_
    refine O_en (e_storeN (vs := [_, _, _]) Tryz.sizeOf69 rfl rfl rfl (by repeat (first | exact Upd.here | apply Upd.there)) rfl (by simp only [setAll, List.setIfInBounds_toArray, List.set_cons_succ, List.set_cons_zero, Nat.reduceAdd, Nat.zero_add] <;> rfl)) ?_
    rintro _ _ ⟨rfl, rfl⟩
    refine O_nil ?_
    refine W_seq ?_
    refine W_reg rfl ?_
    refine O_qs (q_assign rfl) ?_
    refine O_nil ?_
    refine W_ret ?_
    refine res1 (c0 := [laneA lb cb { x with pc := x.pc + 1, v := ⟨mem l (cellP x.who.slot 4), 0, false⟩ }, coreA cb qb xc e h r, A']) rfl rfl (by repeat (first | exact Pick.nil | exact Take.here | apply Pick.cons | apply Take.there)) rfl ?_
    rw [hst, h0]
    exact ⟨A', hA', rfl, rfl⟩
  intro hc7
  have n7 : ¬ x.pc = 7 := of_decide_eq_false hc7
  refine W_seq ?_
  refine W_reg rfl ?_
  refine O_qs (q_eql rfl rfl) ?_
  refine O_qs (q_assign rfl) ?_
  refine O_nil ?_
  refine W_cond rfl ?_ ?_
  · intro hc
    have h0 : x.pc = 4 := of_decide_eq_true hc
    have hst : x.step e r (mem l) = if mem l x.at_.place = x.into.word then ⟨comeSt (x.cutV e), x.come (x.cutV e), r, some (x.at_.place, (x.cutV e).word), false⟩ else ⟨2, x, r, none, false⟩ := by simp [Lane.step, h0]
    refine W_seq ?_
    refine W_reg rfl ?_
    refine O_qs (q_move rfl) ?_
    refine O_qs (q_move rfl) ?_
    refine O_es (e_cf Tryz.call66 rfl (fun wd hwd => (lane_cut _ lb cb qb xc e h r x hx A wb k l hA)) (by repeat (first | exact Pick.nil | exact Take.here | apply Pick.cons | apply Take.there))) ?_
    rintro _ _ ⟨_, ⟨A', hA', rfl, rfl⟩, rfl⟩
    refine O_qs (q_assign rfl) ?_
    refine O_nil ?_
    refine W_ret ?_
    refine res1 (c0 := [laneA lb cb (if mem l x.at_.place = x.into.word then x.come (x.cutV e) else x), coreA cb qb xc e h r, A']) rfl rfl (by repeat (first | exact Pick.nil | exact Take.here | apply Pick.cons | apply Take.there)) rfl ?_
    rw [hst]
    by_cases hm : mem l x.at_.place = x.into.word
    · simp only [if_pos hm, decide_eq_true hm] at hA' ⊢
      exact ⟨A', hA', by first | trivial | rfl, by first | trivial | rfl⟩
    · simp only [if_neg hm, decide_eq_false hm] at hA' ⊢
      exact ⟨A', hA', by first | trivial | rfl, by first | trivial | rfl⟩
  intro hc4
  have n4 : ¬ x.pc = 4 := of_decide_eq_false hc4
  have hst : x.step e r (mem l) = if mem l epochP = IntKind.u64.wrap e then ⟨x.hold.1, x.hold.2, r, none, true⟩ else ⟨2, x, inc r, none, true⟩ := by
    unfold Lane.step
    rw [if_neg n0, if_neg n2, if_neg n5, if_neg n7, if_neg n4]
  refine W_seq ?_
  refine W_seq ?_
  refine W_reg rfl ?_
  refine O_qs (q_move rfl) ?_
  refine O_qs (q_nil rfl) ?_
  refine O_qs (q_fa fa_127_0 rfl) ?_
  refine O_qs (q_load Tryz.isAgg35 rfl (rd_chunk (by repeat (first | exact List.Mem.head _ | apply List.Mem.tail)) rfl)) ?_
  refine O_qs (q_move rfl) ?_
  refine O_es (e_cf Tryz.call67 rfl (fun wd hwd => (core_Valid _ cb qb xc e h r A wb k l hA)) (by repeat (first | exact Pick.nil | exact Take.here | apply Pick.cons | apply Take.there))) ?_
  rintro _ _ ⟨_, ⟨A', hA', rfl, rfl⟩, rfl⟩
  refine O_qs (q_not rfl) ?_
  refine O_nil ?_
  refine W_cond rfl ?_ ?_
  · intro hc
    have hv : ¬ mem l epochP = IntKind.u64.wrap e := by simpa using hc
    rw [if_neg hv] at hst ⊢
    refine W_seq ?_
    refine W_reg rfl ?_
    refine O_qs (q_assign rfl) ?_
    refine O_nil ?_
    refine W_ret ?_
    refine res1 (c0 := [laneA lb cb x, coreA cb qb xc e h (inc r), A']) rfl rfl (by repeat (first | exact Pick.nil | exact Take.here | apply Pick.cons | apply Take.there)) rfl ?_
    rw [hst]
    exact ⟨A', hA', rfl, rfl⟩
  · intro hc
    have hv : mem l epochP = IntKind.u64.wrap e := by simpa using hc
    rw [if_pos hv] at hst ⊢
    refine W_skip ?_
    refine W_seq ?_
    refine W_reg rfl ?_
    refine O_qs (q_move rfl) ?_
    refine O_es (e_cf Tryz.call68 rfl (fun wd hwd => (lane_hold _ lb cb x hx)) (by repeat (first | exact Pick.nil | exact Take.here | apply Pick.cons | apply Take.there))) ?_
    rintro _ _ ⟨_, ⟨rfl, rfl⟩, rfl⟩
    refine O_qs (q_assign rfl) ?_
    refine O_nil ?_
    refine W_ret ?_
    refine res1 (c0 := [laneA lb cb x.hold.2, coreA cb qb xc e h r, A']) rfl rfl (by repeat (first | exact Pick.nil | exact Take.here | apply Pick.cons | apply Take.there)) rfl ?_
    rw [hst]
    exact ⟨A', hA', rfl, rfl⟩

abbrev srchA (sb cb : Nat) (root key : Int) (vals : Bool) (lp : Value) (on : Bool) : Atom :=
  [(sb, .cells #[ptr cb, .int .i64 root, .int .u64 key, .bool vals, lp, .bool on] 137 (0, 0))]
/-- The search of block sb. -/
def SrchIs (A : Atom) (sb cb : Nat) (root key : Int) (vals : Bool) (s : SSt) : Prop :=
  (s.some = false ∧ s.on = false ∧ A = srchA sb cb root key vals (.pointer none) false) ∨ (s.some = true ∧ LaneOk s.x ∧ ∃ lb, A = srchA sb cb root key vals (ptr lb) s.on ++ laneA lb cb s.x)

theorem seek_NewSearch (B : World) (cb : Nat) (root key : Int) (vals : Bool) (s : SSt) (h1 : s.some = false) (h2 : s.on = false) :
    Ctr Tryz.prog 25 [ptr cb, .int .i64 root, .int .u64 key, .bool vals] B [] (fun u c => ∃ sb A, SrchIs A sb cb root key vals s ∧ u = ptr sb ∧ c = [A]) := by
  refine Ctr.intro (n := 17) Tryz.func25 rfl Tryz.ntmps25 (Nat.le_of_ble_eq_true rfl) ?_
  refine W_seq ?_
  refine W_reg rfl ?_
  refine O_qs (q_assign rfl) ?_
  refine O_nil ?_
  refine W_seq ?_
  refine W_seq ?_
  refine W_reg rfl ?_
  refine O_qs (q_move rfl) ?_
  refine O_qs (q_eqnil Tryz.runUnderlying35 rfl rfl) ?_
  refine O_nil ?_
  refine W_false rfl ?_
  refine W_skip ?_
  refine W_seq ?_
  refine W_reg rfl ?_
  refine O_qs (q_move rfl) ?_
  refine O_qs (q_move rfl) ?_
  refine O_qs (q_move rfl) ?_
  refine O_qs (q_move rfl) ?_
  refine O_qs (q_build rfl (bld_137 (cs := [_, _, _, _, _, _]) rfl)) ?_
  refine O_es (e_box (cs := #[_, _, _, _, _, _]) rfl rfl) ?_
  rintro _ _ ⟨b16, rfl, rfl⟩
  refine O_qs (q_assign rfl) ?_
  refine O_nil ?_
  refine W_ret ?_
  refine res1 (c0 := [srchA b16 cb root key vals (.pointer none) false]) rfl rfl (by repeat (first | exact Pick.nil | exact Take.here | apply Pick.cons | apply Take.there)) rfl ?_
  exact ⟨b16, _, .inl ⟨h1, h2, rfl⟩, rfl, rfl⟩

theorem search_Step (B : World) (S : Atom) (sb cb qb : Nat) (root key : Int) (vals : Bool) (s : SSt) (xc : Conf) (h : Who) (A : Atom) (wb : Nat) (k : Count) (l : List (Plc × Int)) (hS : SrchIs S sb cb root key vals s) (hA : PlainIs A wb l k) :
    Ctr Tryz.prog 28 [ptr sb, wI wb] B [S, coreA cb qb xc s.e h s.r, A]
      (fun u c => ∃ S' A', SrchIs S' sb cb root key vals (s.step root key vals (mem l)).s ∧ PlainIs A' wb (wrl l (s.step root key vals (mem l)).wr) (ldK k (s.step root key vals (mem l)).ld (s.step root key vals (mem l)).wr.isSome) ∧
        u = .int .i64 (s.step root key vals (mem l)).st ∧ c = [S', coreA cb qb xc (s.step root key vals (mem l)).s.e h (s.step root key vals (mem l)).s.r, A']) := by
  have hwd : ∀ p, Wd (mem l p) := hA.wds.mem
  cases hon : s.on with
  | false =>
    have hst : s.step root key vals (mem l) = ⟨0, ⟨true, true, newLane ⟨rootP root, 0⟩ 0 key vals, epw (mem l epochP), s.r⟩, none, true⟩ := by
      unfold SSt.step
      rw [if_neg (by simp [hon])]
    rw [hst]
    have fin : ∀ (lp : Value), lp.oneCell' = true → Ctr Tryz.prog 28 [ptr sb, wI wb] B [srchA sb cb root key vals lp false, coreA cb qb xc s.e h s.r, A]
      (fun u c => ∃ S' A', SrchIs S' sb cb root key vals ⟨true, true, newLane ⟨rootP root, 0⟩ 0 key vals, epw (mem l epochP), s.r⟩ ∧ PlainIs A' wb l { k with loads := inc k.loads } ∧ u = .int .i64 0 ∧ c = [S', coreA cb qb xc (epw (mem l epochP)) h s.r, A']) := by
      intro lp hlp
      refine Ctr.intro (n := 58) Tryz.func28 rfl Tryz.ntmps28 (Nat.le_of_ble_eq_true rfl) ?_
      refine W_seq ?_
      refine W_reg rfl ?_
      refine O_qs (q_assign rfl) ?_
      refine O_nil ?_
      refine W_seq ?_
      refine W_block ?_
      refine W_seq ?_
      refine W_reg rfl ?_
      refine O_qs (q_move rfl) ?_
      refine O_qs (q_eqnil Tryz.runUnderlying73 rfl rfl) ?_
      refine O_qs (q_assign rfl) ?_
      refine O_nil ?_
      refine W_false rfl ?_
      refine W_seq ?_
      refine W_reg rfl ?_
      refine O_qs (q_move rfl) ?_
      refine O_qs (q_nil rfl) ?_
      refine O_qs (q_fa fa_137_5 rfl) ?_
      refine O_qs (q_load Tryz.isAgg4 rfl (rd_chunk (by repeat (first | exact List.Mem.head _ | apply List.Mem.tail)) rfl)) ?_
      refine O_qs (q_not rfl) ?_
      refine O_qs (q_assign rfl) ?_
      refine O_nil ?_
      refine W_true rfl ?_
      refine W_seq ?_
      refine W_reg rfl ?_
      refine O_qs (q_move rfl) ?_
      refine O_qs (q_nil rfl) ?_
      refine O_qs (q_fa fa_137_0 rfl) ?_
      refine O_qs (q_load Tryz.isAgg35 rfl (rd_chunk (by repeat (first | exact List.Mem.head _ | apply List.Mem.tail)) rfl)) ?_
      refine O_qs (q_move rfl) ?_
      refine O_es (e_cf Tryz.call12 rfl (fun wd hwd => (core_Check _ cb qb xc s.e h s.r A wb k l hA)) (by repeat (first | exact Pick.nil | exact Take.here | apply Pick.cons | apply Take.there))) ?_
      rintro _ _ ⟨_, ⟨A', hA', rfl, rfl⟩, rfl⟩
      refine O_nil ?_
      refine W_seq ?_
      refine W_draw [[], [], [1], [1, 2], [1, 2, 3], [], [5], [5, 6], [5, 6, 7], [5, 6, 7, 8], [5, 6, 7, 8, 9], [], [11], [11, 12], [11, 12, 13], [], [15], [15, 16], [15, 16, 17], [1, 2, 3, 4, 5, 6, 7, 8, 9, 10, 11, 12, 13, 14, 15, 16, 17, 18], [0, 1, 2, 3, 4, 5, 6, 7, 8, 9, 10, 11, 12, 13, 14, 15, 16, 17, 18, 19], [0, 1, 2, 3, 4, 5, 6, 7, 8, 9, 10, 11, 12, 13, 14, 15, 16, 17, 18, 19, 20], [0, 1, 2, 3, 4, 5, 6, 7, 8, 9, 10, 11, 12, 13, 14, 15, 16, 17, 18, 19, 20, 21]] rfl rfl rfl ?_
      refine V.qs 0 rfl rfl (q_move rfl) ?_
      refine V.qs 1 rfl rfl (q_move rfl) ?_
      refine V.qs 2 rfl rfl (q_nil rfl) ?_
      refine V.qs 3 rfl rfl (q_fa fa_137_0 rfl) ?_
      refine V.qs 4 rfl rfl (q_load Tryz.isAgg35 rfl (rd_chunk (by repeat (first | exact List.Mem.head _ | apply List.Mem.tail)) rfl)) ?_
      refine V.qs 5 rfl rfl (q_move rfl) ?_
      refine V.qs 6 rfl rfl (q_nil rfl) ?_
      refine V.qs 7 rfl rfl (q_fa fa_137_1 rfl) ?_
      refine V.qs 8 rfl rfl (q_load Tryz.isAgg3 rfl (rd_chunk (by repeat (first | exact List.Mem.head _ | apply List.Mem.tail)) rfl)) ?_
      refine V.qs 11 rfl rfl (q_move rfl) ?_
      refine V.qs 12 rfl rfl (q_nil rfl) ?_
      refine V.qs 13 rfl rfl (q_fa fa_137_2 rfl) ?_
      refine V.qs 14 rfl rfl (q_load Tryz.isAgg23 rfl (rd_chunk (by repeat (first | exact List.Mem.head _ | apply List.Mem.tail)) rfl)) ?_
      refine V.qs 15 rfl rfl (q_move rfl) ?_
      refine V.qs 16 rfl rfl (q_nil rfl) ?_
      refine V.qs 17 rfl rfl (q_fa fa_137_3 rfl) ?_
      refine V.qs 18 rfl rfl (q_load Tryz.isAgg4 rfl (rd_chunk (by repeat (first | exact List.Mem.head _ | apply List.Mem.tail)) rfl)) ?_
      refine V.qs 9 rfl rfl (q_cf Tryz.call15 rfl (fun wd hwd => (place_Root _ root)) (by repeat (first | exact Pick.nil | exact Take.here | apply Pick.cons | apply Take.there))) ?_
      refine V.qs 10 rfl rfl (q_build rfl (bld_54 (cs := [_, _, _, _]) rfl)) ?_
      refine V.e1s 19 [0] rfl rfl rfl (e_cf Tryz.call14 rfl (fun wd hwd => (seek_New _ cb ⟨rootP root, 0⟩ 0 key vals)) (by repeat (first | exact Pick.nil | exact Take.here | apply Pick.cons | apply Take.there))) ?_
      rintro _ _ ⟨_, ⟨lb, rfl, rfl⟩, rfl⟩
      refine ⟨st rfl rfl (q_move rfl) (st_nil), ?_⟩
      refine V.qs 20 rfl rfl (q_nil rfl) ?_
      refine V.qs 21 rfl rfl (q_fa fa_137_4 rfl) ?_
      refine V.e1n 22 [] rfl rfl rfl (e_store Tryz.sizeOf48 rfl rfl rfl (by repeat (first | exact Upd.here | apply Upd.there)) rfl (by simp only [setAll, List.setIfInBounds_toArray, List.set_cons_succ, List.set_cons_zero, Nat.reduceAdd, Nat.zero_add] <;> rfl)) ?_
      rintro _ _ ⟨rfl, rfl⟩
      refine ⟨st_nil, ?_⟩
      refine V.fin rfl ?_
      refine W_seq ?_
      refine W_reg rfl ?_
      refine O_qs (q_move rfl) ?_
      refine O_qs (q_nil rfl) ?_
      refine O_qs (q_fa fa_137_5 rfl) ?_
      refine O_en (e_store Tryz.sizeOf4 rfl rfl rfl (by repeat (first | exact Upd.here | apply Upd.there)) rfl (by simp only [setAll, List.setIfInBounds_toArray, List.set_cons_succ, List.set_cons_zero, Nat.reduceAdd, Nat.zero_add] <;> rfl)) ?_
      rintro _ _ ⟨rfl, rfl⟩
      refine O_nil ?_
      refine W_seq ?_
      refine W_reg rfl ?_
      refine O_qs (q_assign rfl) ?_
      refine O_nil ?_
      refine W_ret ?_
      refine res1 (c0 := [srchA sb cb root key vals (ptr lb) true, laneA lb cb (newLane ⟨rootP root, 0⟩ 0 key vals), coreA cb qb xc (epw (mem l epochP)) h s.r, A']) (c := [srchA sb cb root key vals (ptr lb) true ++ laneA lb cb (newLane ⟨rootP root, 0⟩ 0 key vals), coreA cb qb xc (epw (mem l epochP)) h s.r, A']) rfl rfl (by repeat (first | exact Pick.nil | exact Take.here | apply Pick.cons | apply Take.there)) rfl ?_
      exact ⟨_, A', .inr ⟨rfl, ⟨(by decide : (0 : Int) ≤ 0 ∧ (0 : Int) ≤ 1000000), (by decide : Wd 0), (by decide : Wd 0)⟩, lb, rfl⟩, hA', rfl, rfl⟩
    rcases hS with ⟨h1, h2, rfl⟩ | ⟨h1, h2, lb, rfl⟩
    · exact fin _ rfl
    · rw [hon]
      refine Ctr.conv (pre' := [srchA sb cb root key vals (ptr lb) false, laneA lb cb s.x, coreA cb qb xc s.e h s.r, A]) rfl ?_
      intro hi'
      have := (fin (ptr lb) rfl).framed (r := [laneA lb cb s.x]) (.cons .here (.cons (.there .here) (.cons (.there .here) .nil))) hi'
      refine Calls.mono this ?_
      rintro u w ⟨v, pst, he, hinv, S', A', q1, q2, q3, rfl⟩
      exact ⟨v, _, he, hinv.pick (r := [laneA lb cb s.x]) (.cons .here (.cons .here (.cons .here .nil))), S', A', q1, q2, q3, rfl⟩
  | true =>
    rcases hS with ⟨h1, h2, rfl⟩ | ⟨h1, h2, lb, rfl⟩
    · rw [hon] at h2; cases h2
    · have hok : LaneOk (s.x.step s.e s.r (mem l)).x := h2.step hwd
      have hst : s.step root key vals (mem l) = ⟨if (s.x.step s.e s.r (mem l)).st = 2 then 0 else (s.x.step s.e s.r (mem l)).st, { s with on := decide ((s.x.step s.e s.r (mem l)).st ≠ 2), x := (s.x.step s.e s.r (mem l)).x, r := (s.x.step s.e s.r (mem l)).r }, (s.x.step s.e s.r (mem l)).wr, (s.x.step s.e s.r (mem l)).ld⟩ := by
        unfold SSt.step
        rw [if_pos hon]
      rw [hst, hon]
      refine Ctr.conv (pre' := [srchA sb cb root key vals (ptr lb) true, laneA lb cb s.x, coreA cb qb xc s.e h s.r, A]) rfl ?_
      refine Ctr.intro (n := 58) Tryz.func28 rfl Tryz.ntmps28 (Nat.le_of_ble_eq_true rfl) ?_
      refine W_seq ?_
      refine W_reg rfl ?_
      refine O_qs (q_assign rfl) ?_
      refine O_nil ?_
      refine W_seq ?_
      refine W_block ?_
      refine W_seq ?_
      refine W_reg rfl ?_
      refine O_qs (q_move rfl) ?_
      refine O_qs (q_eqnil Tryz.runUnderlying73 rfl rfl) ?_
      refine O_qs (q_assign rfl) ?_
      refine O_nil ?_
      refine W_false rfl ?_
      refine W_seq ?_
      refine W_reg rfl ?_
      refine O_qs (q_move rfl) ?_
      refine O_qs (q_nil rfl) ?_
      refine O_qs (q_fa fa_137_5 rfl) ?_
      refine O_qs (q_load Tryz.isAgg4 rfl (rd_chunk (by repeat (first | exact List.Mem.head _ | apply List.Mem.tail)) rfl)) ?_
      refine O_qs (q_not rfl) ?_
      refine O_qs (q_assign rfl) ?_
      refine O_nil ?_
      refine W_false rfl ?_
      refine W_skip ?_
      refine W_seq ?_
      refine W_reg rfl ?_
      refine O_qs (q_move rfl) ?_
      refine O_qs (q_nil rfl) ?_
      refine O_qs (q_fa fa_137_4 rfl) ?_
      refine O_qs (q_load Tryz.isAgg48 rfl (rd_chunk (by repeat (first | exact List.Mem.head _ | apply List.Mem.tail)) rfl)) ?_
      refine O_qs (q_move rfl) ?_
      refine O_es (e_cf Tryz.call17 rfl (fun wd hwd => (lane_Step _ lb cb qb xc s.e h s.r s.x h2 A wb k l hA)) (by repeat (first | exact Pick.nil | exact Take.here | apply Pick.cons | apply Take.there))) ?_
      rintro _ _ ⟨_, ⟨A', hA', rfl, rfl⟩, rfl⟩
      refine O_qs (q_assign rfl) ?_
      refine O_nil ?_
      refine W_seq ?_
      refine W_seq ?_
      refine W_reg rfl ?_
      refine O_qs (q_move rfl) ?_
      refine O_qs (q_eql rfl rfl) ?_
      refine O_nil ?_
      generalize s.x.step s.e s.r (mem l) = t at hA' hok ⊢
      refine W_cond rfl ?_ ?_
      · intro hc
        have h2 : t.st = 2 := of_decide_eq_true hc
        refine W_seq ?_
        refine W_reg rfl ?_
        refine O_qs (q_move rfl) ?_
        refine O_qs (q_nil rfl) ?_
        refine O_qs (q_fa fa_137_5 rfl) ?_
        refine O_en (e_store Tryz.sizeOf4 rfl rfl rfl (by repeat (first | exact Upd.here | apply Upd.there)) rfl (by simp only [setAll, List.setIfInBounds_toArray, List.set_cons_succ, List.set_cons_zero, Nat.reduceAdd, Nat.zero_add] <;> rfl)) ?_
        rintro _ _ ⟨rfl, rfl⟩
        refine O_nil ?_
        refine W_seq ?_
        refine W_reg rfl ?_
        refine O_qs (q_assign rfl) ?_
        refine O_nil ?_
        refine W_ret ?_
        refine res1 (c0 := [srchA sb cb root key vals (ptr lb) false, laneA lb cb t.x, coreA cb qb xc s.e h t.r, A']) (c := [srchA sb cb root key vals (ptr lb) false ++ laneA lb cb t.x, coreA cb qb xc s.e h t.r, A']) rfl rfl (by repeat (first | exact Pick.nil | exact Take.here | apply Pick.cons | apply Take.there)) rfl ?_
        rw [if_pos h2, h2]
        exact ⟨_, A', .inr ⟨h1, hok, lb, rfl⟩, hA', rfl, rfl⟩
      · intro hc
        have h2 : ¬ t.st = 2 := of_decide_eq_false hc
        refine W_skip ?_
        refine W_seq ?_
        refine W_reg rfl ?_
        refine O_qs (q_move rfl) ?_
        refine O_qs (q_assign rfl) ?_
        refine O_nil ?_
        refine W_ret ?_
        refine res1 (c0 := [srchA sb cb root key vals (ptr lb) true, laneA lb cb t.x, coreA cb qb xc s.e h t.r, A']) (c := [srchA sb cb root key vals (ptr lb) true ++ laneA lb cb t.x, coreA cb qb xc s.e h t.r, A']) rfl rfl (by repeat (first | exact Pick.nil | exact Take.here | apply Pick.cons | apply Take.there)) rfl ?_
        rw [if_neg h2, decide_eq_true h2]
        exact ⟨_, A', .inr ⟨h1, hok, lb, rfl⟩, hA', rfl, rfl⟩

theorem search_Lane (B : World) (S : Atom) (sb cb : Nat) (root key : Int) (vals : Bool) (s : SSt) (hS : SrchIs S sb cb root key vals s) :
    Ctr Tryz.prog 26 [ptr sb] B [S] (fun u c => c = [S] ∧ ((s.some = false ∧ u = .pointer none) ∨ (s.some = true ∧ ∃ lb, u = ptr lb ∧ S = srchA sb cb root key vals (ptr lb) s.on ++ laneA lb cb s.x))) := by
  rcases hS with ⟨h1, h2, rfl⟩ | ⟨h1, h2, lb, rfl⟩
  · refine Ctr.intro (n := 9) Tryz.func26 rfl Tryz.ntmps26 (Nat.le_of_ble_eq_true rfl) ?_
    refine W_seq ?_
    refine W_reg rfl ?_
    refine O_qs (q_assign rfl) ?_
    refine O_nil ?_
    refine W_seq ?_
    refine W_seq ?_
    refine W_reg rfl ?_
    refine O_qs (q_move rfl) ?_
    refine O_qs (q_eqnil Tryz.runUnderlying73 rfl rfl) ?_
    refine O_nil ?_
    refine W_false rfl ?_
    refine W_skip ?_
    refine W_seq ?_
    refine W_reg rfl ?_
    refine O_qs (q_move rfl) ?_
    refine O_qs (q_nil rfl) ?_
    refine O_qs (q_fa fa_137_4 rfl) ?_
    refine O_qs (q_load Tryz.isAgg48 rfl (rd_chunk (by repeat (first | exact List.Mem.head _ | apply List.Mem.tail)) rfl)) ?_
    refine O_qs (q_assign rfl) ?_
    refine O_nil ?_
    refine W_ret ?_
    refine res1 (c0 := [srchA sb cb root key vals (.pointer none) false]) rfl rfl (by repeat (first | exact Pick.nil | exact Take.here | apply Pick.cons | apply Take.there)) rfl ?_
    exact ⟨rfl, .inl ⟨h1, rfl⟩⟩
  · refine Ctr.conv (pre' := [srchA sb cb root key vals (ptr lb) s.on, laneA lb cb s.x]) rfl ?_
    refine Ctr.intro (n := 9) Tryz.func26 rfl Tryz.ntmps26 (Nat.le_of_ble_eq_true rfl) ?_
    refine W_seq ?_
    refine W_reg rfl ?_
    refine O_qs (q_assign rfl) ?_
    refine O_nil ?_
    refine W_seq ?_
    refine W_seq ?_
    refine W_reg rfl ?_
    refine O_qs (q_move rfl) ?_
    refine O_qs (q_eqnil Tryz.runUnderlying73 rfl rfl) ?_
    refine O_nil ?_
    refine W_false rfl ?_
    refine W_skip ?_
    refine W_seq ?_
    refine W_reg rfl ?_
    refine O_qs (q_move rfl) ?_
    refine O_qs (q_nil rfl) ?_
    refine O_qs (q_fa fa_137_4 rfl) ?_
    refine O_qs (q_load Tryz.isAgg48 rfl (rd_chunk (by repeat (first | exact List.Mem.head _ | apply List.Mem.tail)) rfl)) ?_
    refine O_qs (q_assign rfl) ?_
    refine O_nil ?_
    refine W_ret ?_
    refine res1 (c0 := [srchA sb cb root key vals (ptr lb) s.on, laneA lb cb s.x]) (c := [srchA sb cb root key vals (ptr lb) s.on ++ laneA lb cb s.x]) rfl rfl (by repeat (first | exact Pick.nil | exact Take.here | apply Pick.cons | apply Take.there)) rfl ?_
    exact ⟨rfl, .inr ⟨h1, lb, rfl, rfl⟩⟩

theorem lane_Found (B : World) (lb cb : Nat) (x : Lane) : Ctr Tryz.prog 19 [ptr lb] B [laneA lb cb x] (fun u c => u = .bool x.found ∧ c = [laneA lb cb x]) := by
  refine Ctr.intro (n := 11) Tryz.func19 rfl Tryz.ntmps19 (Nat.le_of_ble_eq_true rfl) ?_
  refine W_seq ?_
  refine W_reg rfl ?_
  refine O_qs (q_assign rfl) ?_
  refine O_nil ?_
  refine W_seq ?_
  refine W_reg rfl ?_
  refine O_qs (q_move rfl) ?_
  refine O_qs (q_nenil Tryz.runUnderlying48 rfl rfl) ?_
  refine O_qs (q_move rfl) ?_
  refine O_qs (QY.cond0 rfl rfl rfl (fun H => q_move rfl)) ?_
  refine O_qs (QY.cond0 rfl rfl rfl (fun H => q_nil (gvh rfl H))) ?_
  refine O_qs (QY.cond0 rfl rfl rfl (fun H => q_fa fa_127_11 (gvh rfl H))) ?_
  refine O_qs (QY.cond0 rfl rfl rfl (fun H => q_load Tryz.isAgg4 (gvh rfl H) (rd_chunk (by repeat (first | exact List.Mem.head _ | apply List.Mem.tail)) rfl))) ?_
  refine O_qs (q_and rfl rfl rfl) ?_
  refine O_qs (q_assign rfl) ?_
  refine O_nil ?_
  refine W_ret ?_
  refine res1 (c0 := [laneA lb cb x]) rfl rfl (by repeat (first | exact Pick.nil | exact Take.here | apply Pick.cons | apply Take.there)) rfl ?_
  exact ⟨rfl, rfl⟩
theorem lane_Who (B : World) (lb cb : Nat) (x : Lane) : Ctr Tryz.prog 20 [ptr lb] B [laneA lb cb x] (fun u c => u = x.who.v ∧ c = [laneA lb cb x]) := by
  refine Ctr.intro (n := 10) Tryz.func20 rfl Tryz.ntmps20 (Nat.le_of_ble_eq_true rfl) ?_
  refine W_seq ?_
  refine W_reg rfl ?_
  refine O_es (e_alloc (cs := #[.int .i64 0, .int .i64 0]) Tryz.zeroValue65 rfl) ?_
  rintro _ _ ⟨b2, rfl, rfl⟩
  refine O_nil ?_
  refine W_seq ?_
  refine W_seq ?_
  refine W_reg rfl ?_
  refine O_qs (q_move rfl) ?_
  refine O_qs (q_eqnil Tryz.runUnderlying48 rfl rfl) ?_
  refine O_nil ?_
  refine W_false rfl ?_
  refine W_skip ?_
  refine W_seq ?_
  refine W_reg rfl ?_
  refine O_qs (q_move rfl) ?_
  refine O_qs (q_nil rfl) ?_
  refine O_qs (q_fa fa_127_10 rfl) ?_
  refine O_qs (q_loadN (vs := [_, _]) Tryz.isAgg65 Tryz.sizeOf65 rfl (rd_range (by repeat (first | exact List.Mem.head _ | apply List.Mem.tail)) rfl)) ?_
  refine O_en (e_storeN (vs := [_, _]) Tryz.sizeOf65 rfl rfl rfl (by repeat (first | exact Upd.here | apply Upd.there)) rfl (by simp only [setAll, List.setIfInBounds_toArray, List.set_cons_succ, List.set_cons_zero, Nat.reduceAdd, Nat.zero_add] <;> rfl)) ?_
  rintro _ _ ⟨rfl, rfl⟩
  refine O_nil ?_
  refine W_ret ?_
  refine resL (c0 := [laneA lb cb x]) rfl (.cell (us := [_, _]) Tryz.isAgg65 Tryz.sizeOf65 rfl (rd_range (by repeat (first | exact List.Mem.head _ | apply List.Mem.tail)) rfl) .nil) (by repeat (first | exact Pick.nil | exact Take.here | apply Pick.cons | apply Take.there)) rfl ?_
  exact ⟨rfl, rfl⟩
theorem lane_At (B : World) (lb cb : Nat) (x : Lane) : Ctr Tryz.prog 21 [ptr lb] B [laneA lb cb x] (fun u c => u = x.at_.v ∧ c = [laneA lb cb x]) := by
  refine Ctr.intro (n := 10) Tryz.func21 rfl Tryz.ntmps21 (Nat.le_of_ble_eq_true rfl) ?_
  refine W_seq ?_
  refine W_reg rfl ?_
  refine O_es (e_alloc (cs := #[.int .i64 0, .int .i64 0, .int .i64 0, .int .i64 0]) Tryz.zeroValue54 rfl) ?_
  rintro _ _ ⟨b2, rfl, rfl⟩
  refine O_nil ?_
  refine W_seq ?_
  refine W_seq ?_
  refine W_reg rfl ?_
  refine O_qs (q_move rfl) ?_
  refine O_qs (q_eqnil Tryz.runUnderlying48 rfl rfl) ?_
  refine O_nil ?_
  refine W_false rfl ?_
  refine W_skip ?_
  refine W_seq ?_
  refine W_reg rfl ?_
  refine O_qs (q_move rfl) ?_
  refine O_qs (q_nil rfl) ?_
  refine O_qs (q_fa fa_127_1 rfl) ?_
  refine O_qs (q_loadN (vs := [_, _, _, _]) Tryz.isAgg54 Tryz.sizeOf54 rfl (rd_range (by repeat (first | exact List.Mem.head _ | apply List.Mem.tail)) rfl)) ?_
  refine O_en (e_storeN (vs := [_, _, _, _]) Tryz.sizeOf54 rfl rfl rfl (by repeat (first | exact Upd.here | apply Upd.there)) rfl (by simp only [setAll, List.setIfInBounds_toArray, List.set_cons_succ, List.set_cons_zero, Nat.reduceAdd, Nat.zero_add] <;> rfl)) ?_
  rintro _ _ ⟨rfl, rfl⟩
  refine O_nil ?_
  refine W_ret ?_
  refine resL (c0 := [laneA lb cb x]) rfl (.cell (us := [_, _, _, _]) Tryz.isAgg54 Tryz.sizeOf54 rfl (rd_range (by repeat (first | exact List.Mem.head _ | apply List.Mem.tail)) rfl) .nil) (by repeat (first | exact Pick.nil | exact Take.here | apply Pick.cons | apply Take.there)) rfl ?_
  exact ⟨rfl, rfl⟩
theorem lane_Val (B : World) (lb cb : Nat) (x : Lane) : Ctr Tryz.prog 32 [ptr lb] B [laneA lb cb x] (fun u c => u = .int .u64 x.v.word ∧ c = [laneA lb cb x]) := by
  refine Ctr.intro (n := 10) Tryz.func32 rfl Tryz.ntmps32 (Nat.le_of_ble_eq_true rfl) ?_
  refine W_seq ?_
  refine W_reg rfl ?_
  refine O_qs (q_assign rfl) ?_
  refine O_nil ?_
  refine W_seq ?_
  refine W_seq ?_
  refine W_reg rfl ?_
  refine O_qs (q_move rfl) ?_
  refine O_qs (q_eqnil Tryz.runUnderlying48 rfl rfl) ?_
  refine O_nil ?_
  refine W_false rfl ?_
  refine W_skip ?_
  refine W_seq ?_
  refine W_reg rfl ?_
  refine O_qs (q_move rfl) ?_
  refine O_qs (q_nil rfl) ?_
  refine O_qs (q_fa fa_127_9 rfl) ?_
  refine O_qs (q_fa fa_69_0 rfl) ?_
  refine O_qs (q_load Tryz.isAgg23 rfl (rd_chunk (by repeat (first | exact List.Mem.head _ | apply List.Mem.tail)) rfl)) ?_
  refine O_qs (q_assign rfl) ?_
  refine O_nil ?_
  refine W_ret ?_
  refine res1 (c0 := [laneA lb cb x]) rfl rfl (by repeat (first | exact Pick.nil | exact Take.here | apply Pick.cons | apply Take.there)) rfl ?_
  exact ⟨rfl, rfl⟩
end Go.Proofs.YtbfplncdmbjjhaaGreat
