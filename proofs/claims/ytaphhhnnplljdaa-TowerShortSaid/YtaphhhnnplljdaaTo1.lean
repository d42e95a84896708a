/-
  Walks: a find.
-/
import Derived.Test.YtaphhhnnplljdaaTo0
set_option linter.unusedSimpArgs false
set_option linter.unusedVariables false
namespace Go.SL
def layPt : Lay (Option Nat) where
  enc := fun o => [.pointer (o.map fun b => ⟨b, 0, none⟩)]
  size := 1
  pos := by decide
  len := fun _ => rfl
  one := by
    intro a u h
    simp only [List.mem_cons, List.not_mem_nil, or_false] at h
    rcases h with rfl
    rfl
end Go.SL
namespace Go.Proofs.Ytaphhhnnplljdaa
open Go Go.SL

abbrev findA (tb cb : Nat) (key : Int) (v : Value) (level : Int) : Atom :=
  [(tb, .cells #[ptr cb, .int .u64 key, v, .int .i64 level] 151 (0, 0))]

theorem tower_New (B : World) (cb qb : Nat) (xc : Conf) (e : Int) (h : Who) (r key : Int) (n : Nat) (hk : xc.kind = 3) (hn : xc.height = n) (hn2 : n ≤ 1000) :
    Ctr Try.prog 42 [ptr cb, .int .u64 key] B [coreA cb qb xc e h r]
      (fun u c => ∃ tb P g, Row layPt 75 P (.slice (some ⟨g, 0, none⟩) n n) (List.replicate n none) ∧ u = ptr tb ∧ c = [findA tb cb key (.slice (some ⟨g, 0, none⟩) n n) (-1), P, coreA cb qb xc e h r]) := by
  refine Ctr.intro (n := 21) Try.func42 rfl Try.ntmps42 (Nat.le_of_ble_eq_true rfl) ?_
  refine W_seq ?_
  refine W_reg rfl ?_
  refine O_qs (q_assign rfl) ?_
  refine O_nil ?_
  refine W_seq ?_
  refine W_seq ?_
  refine W_reg rfl ?_
  refine O_qs (q_move rfl) ?_
  refine O_qs (q_eqnil Try.runUnderlying26 rfl rfl) ?_
  refine O_qs (q_move rfl) ?_
  refine O_qs (QY.guard rfl rfl rfl (q_move rfl)) ?_
  refine O_qs (QY.guard rfl rfl rfl (q_cf Try.call15 rfl (fun wd hwd => (core_Conf _ cb qb xc e h r)) (by repeat (first | exact Pick.nil | exact Take.here | apply Pick.cons | apply Take.there)))) ?_
  refine O_qs (QY.guard rfl rfl rfl (q_field (fd_23_0 rfl) rfl)) ?_
  refine O_qs (QY.guard rfl rfl rfl (q_neq rfl rfl)) ?_
  refine O_qs (q_pick_f rfl rfl) ?_
  refine O_nil ?_
  refine W_fa rfl ((by simp [hk])) ?_
  refine W_skip ?_
  refine W_seq ?_
  refine W_reg rfl ?_
  refine O_qs (q_move rfl) ?_
  refine O_qs (q_move rfl) ?_
  refine O_qs (q_move rfl) ?_
  refine O_qs (q_cf Try.call15 rfl (fun wd hwd => (core_Conf _ cb qb xc e h r)) (by repeat (first | exact Pick.nil | exact Take.here | apply Pick.cons | apply Take.there))) ?_
  refine O_qs (q_field (fd_23_3 rfl) rfl) ?_
  rw [hn]
  refine O_es (e_makeSlice (Y := layPt) (i := Try.t75) (n := n) (a0 := none) Try.underlying149 (by kernel_rfl) rfl rfl rfl rfl rfl (by show 8 * _ ≤ _; omega) (by simp only [maxLen]; omega)) ?_
  rintro _ _ ⟨g, P, hP, rfl, rfl⟩
  refine O_qs (q_build rfl (bld_151 (cs := [_, _, _, _]) rfl)) ?_
  refine O_es (e_box (cs := #[_, _, _, _]) rfl rfl) ?_
  rintro _ _ ⟨b20, rfl, rfl⟩
  refine O_qs (q_assign rfl) ?_
  refine O_nil ?_
  refine W_ret ?_
  refine res1 (c0 := [findA b20 cb key (.slice (some ⟨g, 0, none⟩) n n) (-1), P, coreA cb qb xc e h r]) rfl rfl (by repeat (first | exact Pick.nil | exact Take.here | apply Pick.cons | apply Take.there)) rfl ?_
  exact ⟨b20, P, g, hP, rfl, rfl⟩

theorem tower_New_nil (B : World) (cb qb : Nat) (xc : Conf) (e : Int) (h : Who) (r key : Int) (hk : xc.kind ≠ 3) :
    Ctr Try.prog 42 [ptr cb, .int .u64 key] B [coreA cb qb xc e h r] (fun u c => u = .pointer none ∧ c = [coreA cb qb xc e h r]) := by
  refine Ctr.intro (n := 21) Try.func42 rfl Try.ntmps42 (Nat.le_of_ble_eq_true rfl) ?_
  refine W_seq ?_
  refine W_reg rfl ?_
  refine O_qs (q_assign rfl) ?_
  refine O_nil ?_
  refine W_seq ?_
  refine W_seq ?_
  refine W_reg rfl ?_
  refine O_qs (q_move rfl) ?_
  refine O_qs (q_eqnil Try.runUnderlying26 rfl rfl) ?_
  refine O_qs (q_move rfl) ?_
  refine O_qs (QY.guard rfl rfl rfl (q_move rfl)) ?_
  refine O_qs (QY.guard rfl rfl rfl (q_cf Try.call15 rfl (fun wd hwd => (core_Conf _ cb qb xc e h r)) (by repeat (first | exact Pick.nil | exact Take.here | apply Pick.cons | apply Take.there)))) ?_
  refine O_qs (QY.guard rfl rfl rfl (q_field (fd_23_0 rfl) rfl)) ?_
  refine O_qs (QY.guard rfl rfl rfl (q_neq rfl rfl)) ?_
  refine O_qs (q_pick_f rfl rfl) ?_
  refine O_nil ?_
  refine W_tr rfl ((by simp [hk])) ?_
  refine W_seq ?_
  refine W_reg rfl ?_
  refine O_qs (q_assign rfl) ?_
  refine O_nil ?_
  refine W_ret ?_
  refine res1 (c0 := [coreA cb qb xc e h r]) rfl rfl (by repeat (first | exact Pick.nil | exact Take.here | apply Pick.cons | apply Take.there)) rfl ?_
  exact ⟨rfl, rfl⟩

theorem tower_below (B : World) (a : At) (lv : Int) (hl : -1000 ≤ lv ∧ lv ≤ 1000) (h0 : 0 ≤ lv) : Ctr Try.prog 108 [a.v, .int .i64 lv] B [] (fun u c => u = (belowP a lv).v ∧ c = []) := by
  refine Ctr.intro (n := 22) Try.func108 rfl Try.ntmps108 (Nat.le_of_ble_eq_true rfl) ?_
  refine W_seq ?_
  refine W_reg rfl ?_
  refine O_es (e_box (cs := #[_, _, _, _]) rfl rfl) ?_
  rintro _ _ ⟨b2, rfl, rfl⟩
  refine O_es (e_alloc (cs := #[.int .i64 0, .int .i64 0, .int .i64 0, .int .i64 0]) Try.zeroValue91 rfl) ?_
  rintro _ _ ⟨b4, rfl, rfl⟩
  refine O_nil ?_
  refine W_seq ?_
  refine W_seq ?_
  refine W_draw [[], [0], [], [2], [2, 3], [0, 1, 2, 3, 4]] rfl rfl rfl ?_
  refine V.qs 0 rfl rfl (q_fa fa_91_0 rfl) ?_
  refine V.qs 1 rfl rfl (q_loadN (vs := [_, _, _]) Try.isAgg79 Try.sizeOf79 rfl (rd_range (by repeat (first | exact List.Mem.head _ | apply List.Mem.tail)) rfl)) ?_
  refine V.qs 2 rfl rfl (q_move rfl) ?_
  refine V.qs 3 rfl rfl (q_add (c := lv + 1) (w64 (by omega)) rfl rfl) ?_
  refine V.qs 4 rfl rfl (q_cf Try.call29 rfl (fun wd hwd => (place_Root _ (lv + 1))) (by repeat (first | exact Pick.nil | exact Take.here | apply Pick.cons | apply Take.there))) ?_
  refine V.qs 5 rfl rfl (q_bin eql_79 rfl rfl) ?_
  refine V.fin rfl ?_
  refine W_cond rfl ?_ ?_
  · intro hc
    have hp : a.place = rootP (lv + 1) := by
      rw [Bool.and_eq_true, Bool.and_eq_true] at hc
      obtain ⟨c1, c2, c3⟩ := hc
      have c1 := of_decide_eq_true c1
      have c2 := of_decide_eq_true c2
      have c3 := of_decide_eq_true c3
      obtain ⟨⟨k, s, n⟩, i⟩ := a
      dsimp only [rootP] at c1 c2 c3 ⊢
      rw [c1, c2, c3]
    refine W_seq ?_
    refine W_reg rfl ?_
    refine O_qs (q_move rfl) ?_
    refine O_qs (q_cf Try.call29 rfl (fun wd hwd => (place_Root _ lv)) (by repeat (first | exact Pick.nil | exact Take.here | apply Pick.cons | apply Take.there))) ?_
    refine O_qs (q_build rfl (bld_91 (cs := [_, _, _, _]) rfl)) ?_
    refine O_en (e_storeN (vs := [_, _, _, _]) Try.sizeOf91 rfl rfl rfl (by repeat (first | exact Upd.here | apply Upd.there)) rfl (by simp only [setAll, List.setIfInBounds_toArray, List.set_cons_succ, List.set_cons_zero, Nat.reduceAdd, Nat.zero_add] <;> rfl)) ?_
    rintro _ _ ⟨rfl, rfl⟩
    refine O_nil ?_
    refine W_ret ?_
    refine resL (c0 := []) rfl (.cell (us := [_, _, _, _]) Try.isAgg91 Try.sizeOf91 rfl (rd_range (by repeat (first | exact List.Mem.head _ | apply List.Mem.tail)) rfl) .nil) (by repeat (first | exact Pick.nil | exact Take.here | apply Pick.cons | apply Take.there)) rfl ?_
    unfold belowP
    rw [if_pos hp]
    exact ⟨rfl, rfl⟩
  · intro hc
    have hp : ¬ a.place = rootP (lv + 1) := by
      intro h
      simp [h, rootP] at hc
    refine W_skip ?_
    refine W_seq ?_
    refine W_draw [[], [0], [0, 1], [], [0, 1, 2, 3], [], [5], [0, 1, 2, 3, 4, 5, 6], [0, 1, 2, 3, 4, 5, 6, 7]] rfl rfl rfl ?_
    refine V.qs 0 rfl rfl (q_fa fa_91_0 rfl) ?_
    refine V.qs 1 rfl rfl (q_fa fa_79_1 rfl) ?_
    refine V.qs 2 rfl rfl (q_load Try.isAgg3 rfl (rd_chunk (by repeat (first | exact List.Mem.head _ | apply List.Mem.tail)) rfl)) ?_
    refine V.qs 3 rfl rfl (q_move rfl) ?_
    refine V.qs 5 rfl rfl (q_fa fa_91_1 rfl) ?_
    refine V.qs 6 rfl rfl (q_load Try.isAgg3 rfl (rd_chunk (by repeat (first | exact List.Mem.head _ | apply List.Mem.tail)) rfl)) ?_
    refine V.qs 4 rfl rfl (q_cf Try.call32 rfl (fun wd hwd => (place_Link _ a.place.slot lv (by omega))) (by repeat (first | exact Pick.nil | exact Take.here | apply Pick.cons | apply Take.there))) ?_
    refine V.qs 7 rfl rfl (q_build rfl (bld_91 (cs := [_, _, _, _]) rfl)) ?_
    refine V.e1n 8 [] rfl rfl rfl (e_storeN (vs := [_, _, _, _]) Try.sizeOf91 rfl rfl rfl (by repeat (first | exact Upd.here | apply Upd.there)) rfl (by simp only [setAll, List.setIfInBounds_toArray, List.set_cons_succ, List.set_cons_zero, Nat.reduceAdd, Nat.zero_add] <;> rfl)) ?_
    rintro _ _ ⟨rfl, rfl⟩
    refine ⟨st_nil, ?_⟩
    refine V.fin rfl ?_
    refine W_ret ?_
    refine resL (c0 := []) rfl (.cell (us := [_, _, _, _]) Try.isAgg91 Try.sizeOf91 rfl (rd_range (by repeat (first | exact List.Mem.head _ | apply List.Mem.tail)) rfl) .nil) (by repeat (first | exact Pick.nil | exact Take.here | apply Pick.cons | apply Take.there)) rfl ?_
    unfold belowP
    rw [if_neg hp]
    exact ⟨rfl, rfl⟩

theorem tower_from (B : World) (tb cb : Nat) (key lev0 : Int) (P : Atom) (g n : Nat) (ps : List (Option Nat)) (a : At) (k : Nat) (hP : Row layPt 75 P (.slice (some ⟨g, 0, none⟩) n n) ps) (hk : k < n) (hn : ps.length = n) :
    Ctr Try.prog 85 [ptr tb, a.v, .int .i64 (k : Int)] B [findA tb cb key (.slice (some ⟨g, 0, none⟩) n n) lev0, P]
      (fun u c => ∃ lb P', Row layPt 75 P' (.slice (some ⟨g, 0, none⟩) n n) (ps.set k (some lb)) ∧ u = .tuple #[] ∧ c = [findA tb cb key (.slice (some ⟨g, 0, none⟩) n n) (k : Int), P', laneA lb cb (newLane a k key false)]) := by
  have hg : ps[k]? = some ps[k] := List.getElem?_eq_getElem (by omega)
  refine Ctr.intro (n := 27) Try.func85 rfl Try.ntmps85 (Nat.le_of_ble_eq_true rfl) ?_
  refine W_seq ?_
  refine W_reg rfl ?_
  refine O_es (e_box (cs := #[_, _, _, _]) rfl rfl) ?_
  rintro _ _ ⟨b4, rfl, rfl⟩
  refine O_nil ?_
  refine W_seq ?_
  refine W_reg rfl ?_
  refine O_qs (q_move rfl) ?_
  refine O_qs (q_move rfl) ?_
  refine O_qs (q_nil rfl) ?_
  refine O_qs (q_fa fa_151_3 rfl) ?_
  refine O_en (e_store Try.sizeOf3 rfl rfl rfl (by repeat (first | exact Upd.here | apply Upd.there)) rfl (by simp only [setAll, List.setIfInBounds_toArray, List.set_cons_succ, List.set_cons_zero, Nat.reduceAdd, Nat.zero_add] <;> rfl)) ?_
  rintro _ _ ⟨rfl, rfl⟩
  refine O_nil ?_
  refine W_draw [[], [0], [0, 1], [0, 1, 2], [], [], [5], [5, 6], [5, 6, 7], [], [], [], [11], [11, 12], [11, 12, 13], [5, 6, 7, 8, 9, 10, 11, 12, 13, 14], [0, 1, 2, 3, 4, 5, 6, 7, 8, 9, 10, 11, 12, 13, 14, 15], [0, 1, 2, 3, 4, 5, 6, 7, 8, 9, 10, 11, 12, 13, 14, 15, 16]] rfl rfl rfl ?_
  refine V.qs 0 rfl rfl (q_move rfl) ?_
  refine V.qs 1 rfl rfl (q_nil rfl) ?_
  refine V.qs 2 rfl rfl (q_fa fa_151_2 rfl) ?_
  refine V.qs 3 rfl rfl (q_load Try.isAgg149 rfl (rd_chunk (by repeat (first | exact List.Mem.head _ | apply List.Mem.tail)) rfl)) ?_
  refine V.qs 4 rfl rfl (q_move rfl) ?_
  refine V.qs 5 rfl rfl (q_move rfl) ?_
  refine V.qs 6 rfl rfl (q_nil rfl) ?_
  refine V.qs 7 rfl rfl (q_fa fa_151_0 rfl) ?_
  refine V.qs 8 rfl rfl (q_load Try.isAgg26 rfl (rd_chunk (by repeat (first | exact List.Mem.head _ | apply List.Mem.tail)) rfl)) ?_
  refine V.qs 9 rfl rfl (q_loadN (vs := [_, _, _, _]) Try.isAgg91 Try.sizeOf91 rfl (rd_range (by repeat (first | exact List.Mem.head _ | apply List.Mem.tail)) rfl)) ?_
  refine V.qs 10 rfl rfl (q_move rfl) ?_
  refine V.qs 11 rfl rfl (q_move rfl) ?_
  refine V.qs 12 rfl rfl (q_nil rfl) ?_
  refine V.qs 13 rfl rfl (q_fa fa_151_1 rfl) ?_
  refine V.qs 14 rfl rfl (q_load Try.isAgg41 rfl (rd_chunk (by repeat (first | exact List.Mem.head _ | apply List.Mem.tail)) rfl)) ?_
  refine V.e1s 15 [4, 3, 2, 1, 0] rfl rfl rfl (e_cf Try.call77 rfl (fun wd hwd => (seek_New _ cb a (k : Int) key false)) (by repeat (first | exact Pick.nil | exact Take.here | apply Pick.cons | apply Take.there))) ?_
  rintro _ _ ⟨_, ⟨lb, rfl, rfl⟩, rfl⟩
  refine ⟨st rfl rfl (q_move rfl) (st rfl rfl (q_load Try.isAgg149 rfl (rd_chunk (by repeat (first | exact List.Mem.head _ | apply List.Mem.tail)) rfl)) (st rfl rfl (q_fa fa_151_2 rfl) (st rfl rfl (q_nil rfl) (st rfl rfl (q_move rfl) (st_nil))))), ?_⟩
  refine V.qs 16 rfl rfl (q_ian Try.runUnderlying149 Try.sizeOf75 rfl rfl hk) ?_
  refine V.e1n 17 [] rfl rfl rfl (e_storeRow (vs := [ptr lb]) (a' := some lb) (j := 0) Try.sizeOf75 hP (fun _ => (by repeat (first | exact Upd.here | apply Upd.there))) hg rfl (by show 0 + k * 1 = _; simp [layPt]) rfl rfl rfl (Nat.le_of_ble_eq_true rfl)) ?_
  rintro _ _ ⟨P', hP', rfl, rfl⟩
  refine ⟨st_nil, ?_⟩
  refine V.fin rfl ?_
  refine res0 (c0 := [findA tb cb key (.slice (some ⟨g, 0, none⟩) n n) (k : Int), P', laneA lb cb (newLane a k key false)]) rfl (by repeat (first | exact Pick.nil | exact Take.here | apply Pick.cons | apply Take.there)) rfl ?_
  exact ⟨lb, P', hP', rfl, rfl⟩

theorem tower_down0 (B : World) (tb cb lb : Nat) (key : Int) (P : Atom) (g n : Nat) (ps : List (Option Nat)) (x : Lane) :
    Ctr Try.prog 86 [ptr tb] B [findA tb cb key (.slice (some ⟨g, 0, none⟩) n n) 0, P, laneA lb cb x]
      (fun u c => u = .int .i64 1 ∧ c = [findA tb cb key (.slice (some ⟨g, 0, none⟩) n n) 0, P, laneA lb cb x]) := by
  refine Ctr.intro (n := 32) Try.func86 rfl Try.ntmps86 (Nat.le_of_ble_eq_true rfl) ?_
  refine W_seq ?_
  refine W_reg rfl ?_
  refine O_qs (q_assign rfl) ?_
  refine O_nil ?_
  refine W_seq ?_
  refine W_seq ?_
  refine W_reg rfl ?_
  refine O_qs (q_move rfl) ?_
  refine O_qs (q_nil rfl) ?_
  refine O_qs (q_fa fa_151_3 rfl) ?_
  refine O_qs (q_load Try.isAgg3 rfl (rd_chunk (by repeat (first | exact List.Mem.head _ | apply List.Mem.tail)) rfl)) ?_
  refine O_qs (q_eql rfl rfl) ?_
  refine O_nil ?_
  refine W_true rfl ?_
  refine W_seq ?_
  refine W_reg rfl ?_
  refine O_qs (q_assign rfl) ?_
  refine O_nil ?_
  refine W_ret ?_
  refine res1 (c0 := [findA tb cb key (.slice (some ⟨g, 0, none⟩) n n) 0, P, laneA lb cb x]) rfl rfl (by repeat (first | exact Pick.nil | exact Take.here | apply Pick.cons | apply Take.there)) rfl ?_
  exact ⟨rfl, rfl⟩

theorem tower_down (B : World) (tb cb lb : Nat) (key : Int) (P : Atom) (g n : Nat) (ps : List (Option Nat)) (x : Lane) (k : Nat) (hP : Row layPt 75 P (.slice (some ⟨g, 0, none⟩) n n) ps) (hn : ps.length = n) (hk : k + 1 < n) (hn2 : n ≤ 1000) (hl : ps[k + 1]? = some (some lb)) :
    Ctr Try.prog 86 [ptr tb] B [findA tb cb key (.slice (some ⟨g, 0, none⟩) n n) ((k + 1 : Nat) : Int), P, laneA lb cb x]
      (fun u c => ∃ lb' P', Row layPt 75 P' (.slice (some ⟨g, 0, none⟩) n n) (ps.set k (some lb')) ∧ u = .int .i64 0 ∧ c = [findA tb cb key (.slice (some ⟨g, 0, none⟩) n n) (k : Int), P', laneA lb' cb (newLane (belowP x.at_ k) k key false), laneA lb cb x]) := by
  refine Ctr.intro (n := 32) Try.func86 rfl Try.ntmps86 (Nat.le_of_ble_eq_true rfl) ?_
  refine W_seq ?_
  refine W_reg rfl ?_
  refine O_qs (q_assign rfl) ?_
  refine O_nil ?_
  refine W_seq ?_
  refine W_seq ?_
  refine W_reg rfl ?_
  refine O_qs (q_move rfl) ?_
  refine O_qs (q_nil rfl) ?_
  refine O_qs (q_fa fa_151_3 rfl) ?_
  refine O_qs (q_load Try.isAgg3 rfl (rd_chunk (by repeat (first | exact List.Mem.head _ | apply List.Mem.tail)) rfl)) ?_
  refine O_qs (q_eql rfl rfl) ?_
  refine O_nil ?_
  refine W_fa rfl ((by simp; omega)) ?_
  refine W_skip ?_
  refine W_seq ?_
  refine W_draw [[], [], [1], [1, 2], [1, 2, 3], [], [5], [5, 6], [5, 6, 7], [1, 2, 3, 4, 5, 6, 7, 8], [1, 2, 3, 4, 5, 6, 7, 8, 9], [1, 2, 3, 4, 5, 6, 7, 8, 9, 10], [], [12], [12, 13], [12, 13, 14], [12, 13, 14, 15], [1, 2, 3, 4, 5, 6, 7, 8, 9, 10, 11, 12, 13, 14, 15, 16], [], [18], [18, 19], [18, 19, 20], [18, 19, 20, 21], [0, 1, 2, 3, 4, 5, 6, 7, 8, 9, 10, 11, 12, 13, 14, 15, 16, 17, 18, 19, 20, 21, 22]] rfl rfl rfl ?_
  refine V.qs 0 rfl rfl (q_move rfl) ?_
  refine V.qs 1 rfl rfl (q_move rfl) ?_
  refine V.qs 2 rfl rfl (q_nil rfl) ?_
  refine V.qs 3 rfl rfl (q_fa fa_151_2 rfl) ?_
  refine V.qs 4 rfl rfl (q_load Try.isAgg149 rfl (rd_chunk (by repeat (first | exact List.Mem.head _ | apply List.Mem.tail)) rfl)) ?_
  refine V.qs 5 rfl rfl (q_move rfl) ?_
  refine V.qs 6 rfl rfl (q_nil rfl) ?_
  refine V.qs 7 rfl rfl (q_fa fa_151_3 rfl) ?_
  refine V.qs 8 rfl rfl (q_load Try.isAgg3 rfl (rd_chunk (by repeat (first | exact List.Mem.head _ | apply List.Mem.tail)) rfl)) ?_
  refine V.qs 9 rfl rfl (q_ian Try.runUnderlying149 Try.sizeOf75 rfl rfl hk) ?_
  refine V.qs 10 rfl rfl (q_load Try.isAgg75 rfl (hP.rd (by repeat (first | exact List.Mem.head _ | apply List.Mem.tail)) hl (j := 0) rfl (by show 0 + (k + 1) * 1 = _; simp [layPt]))) ?_
  refine V.qs 12 rfl rfl (q_move rfl) ?_
  refine V.qs 13 rfl rfl (q_nil rfl) ?_
  refine V.qs 14 rfl rfl (q_fa fa_151_3 rfl) ?_
  refine V.qs 15 rfl rfl (q_load Try.isAgg3 rfl (rd_chunk (by repeat (first | exact List.Mem.head _ | apply List.Mem.tail)) rfl)) ?_
  refine V.qs 16 rfl rfl (q_sub (c := (k : Int)) (w64' (by omega) (by omega)) rfl rfl) ?_
  refine V.qs 18 rfl rfl (q_move rfl) ?_
  refine V.qs 19 rfl rfl (q_nil rfl) ?_
  refine V.qs 20 rfl rfl (q_fa fa_151_3 rfl) ?_
  refine V.qs 21 rfl rfl (q_load Try.isAgg3 rfl (rd_chunk (by repeat (first | exact List.Mem.head _ | apply List.Mem.tail)) rfl)) ?_
  refine V.qs 22 rfl rfl (q_sub (c := (k : Int)) (w64' (by omega) (by omega)) rfl rfl) ?_
  refine V.qs 11 rfl rfl (q_cf Try.call38 rfl (fun wd hwd => (lane_At _ lb cb x)) (by repeat (first | exact Pick.nil | exact Take.here | apply Pick.cons | apply Take.there))) ?_
  refine V.qs 17 rfl rfl (q_cf Try.call108 rfl (fun wd hwd => (tower_below _ x.at_ (k : Int) (by omega) (by omega))) (by repeat (first | exact Pick.nil | exact Take.here | apply Pick.cons | apply Take.there))) ?_
  refine V.e1s 23 [] rfl rfl rfl (e_cf Try.call85 rfl (fun wd hwd => (tower_from _ tb cb key ((k + 1 : Nat) : Int) P g n ps (belowP x.at_ k) k hP (by omega) hn)) (by repeat (first | exact Pick.nil | exact Take.here | apply Pick.cons | apply Take.there))) ?_
  rintro _ _ ⟨_, ⟨lb', P', hP', rfl, rfl⟩, rfl⟩
  refine ⟨st_nil, ?_⟩
  refine V.fin rfl ?_
  refine W_seq ?_
  refine W_reg rfl ?_
  refine O_qs (q_assign rfl) ?_
  refine O_nil ?_
  refine W_ret ?_
  refine res1 (c0 := [findA tb cb key (.slice (some ⟨g, 0, none⟩) n n) (k : Int), P', laneA lb' cb (newLane (belowP x.at_ k) k key false), laneA lb cb x]) rfl rfl (by repeat (first | exact Pick.nil | exact Take.here | apply Pick.cons | apply Take.there)) rfl ?_
  exact ⟨lb', P', hP', rfl, rfl⟩

theorem tower_Step0 (B : World) (tb cb qb : Nat) (key : Int) (P : Atom) (g n : Nat) (ps : List (Option Nat)) (xc : Conf) (e : Int) (h : Who) (r : Int) (A : Atom) (wb : Nat) (k : Count) (l : List (Plc × Int)) (hP : Row layPt 75 P (.slice (some ⟨g, 0, none⟩) n n) ps) (hn : ps.length = n) (hn1 : 1 ≤ n ∧ n ≤ 1000) (hA : PlainIs A wb l k) :
    Ctr Try.prog 44 [ptr tb, wI wb] B [findA tb cb key (.slice (some ⟨g, 0, none⟩) n n) (-1), P, coreA cb qb xc e h r, A]
      (fun u c => ∃ lb P' A', Row layPt 75 P' (.slice (some ⟨g, 0, none⟩) n n) (ps.set (n - 1) (some lb)) ∧ PlainIs A' wb l { k with loads := inc k.loads } ∧ u = .int .i64 0 ∧
        c = [findA tb cb key (.slice (some ⟨g, 0, none⟩) n n) ((n - 1 : Nat) : Int), P', laneA lb cb (newLane ⟨rootP ((n - 1 : Nat) : Int), 0⟩ ((n - 1 : Nat) : Int) key false), coreA cb qb xc (epw (mem l epochP)) h r, A']) := by
  refine Ctr.intro (n := 52) Try.func44 rfl Try.ntmps44 (Nat.le_of_ble_eq_true rfl) ?_
  refine W_seq ?_
  refine W_reg rfl ?_
  refine O_qs (q_assign rfl) ?_
  refine O_nil ?_
  refine W_seq ?_
  refine W_seq ?_
  refine W_reg rfl ?_
  refine O_qs (q_move rfl) ?_
  refine O_qs (q_eqnil Try.runUnderlying101 rfl rfl) ?_
  refine O_nil ?_
  refine W_false rfl ?_
  refine W_skip ?_
  refine W_seq ?_
  refine W_seq ?_
  refine W_reg rfl ?_
  refine O_qs (q_move rfl) ?_
  refine O_qs (q_nil rfl) ?_
  refine O_qs (q_fa fa_151_3 rfl) ?_
  refine O_qs (q_load Try.isAgg3 rfl (rd_chunk (by repeat (first | exact List.Mem.head _ | apply List.Mem.tail)) rfl)) ?_
  refine O_qs (q_lss rfl rfl) ?_
  refine O_nil ?_
  refine W_true rfl ?_
  refine W_seq ?_
  refine W_reg rfl ?_
  refine O_qs (q_move rfl) ?_
  refine O_qs (q_nil rfl) ?_
  refine O_qs (q_fa fa_151_0 rfl) ?_
  refine O_qs (q_load Try.isAgg26 rfl (rd_chunk (by repeat (first | exact List.Mem.head _ | apply List.Mem.tail)) rfl)) ?_
  refine O_qs (q_move rfl) ?_
  refine O_es (e_cf Try.call48 rfl (fun wd hwd => (core_Check _ cb qb xc e h r A wb k l hA)) (by repeat (first | exact Pick.nil | exact Take.here | apply Pick.cons | apply Take.there))) ?_
  rintro _ _ ⟨_, ⟨A', hA', rfl, rfl⟩, rfl⟩
  refine O_nil ?_
  refine W_seq ?_
  refine W_reg rfl ?_
  refine O_qs (q_move rfl) ?_
  refine O_qs (q_nil rfl) ?_
  refine O_qs (q_fa fa_151_2 rfl) ?_
  refine O_qs (q_load Try.isAgg149 rfl (rd_chunk (by repeat (first | exact List.Mem.head _ | apply List.Mem.tail)) rfl)) ?_
  refine O_qs (q_len Try.runUnderlying149 rfl) ?_
  refine O_qs (q_sub (c := ((n - 1 : Nat) : Int)) (w64' (by omega) (by omega)) rfl rfl) ?_
  refine O_qs (q_assign rfl) ?_
  refine O_nil ?_
  refine W_seq ?_
  refine W_reg rfl ?_
  refine O_qs (q_move rfl) ?_
  refine O_qs (q_move rfl) ?_
  refine O_qs (q_cf Try.call29 rfl (fun wd hwd => (place_Root _ ((n - 1 : Nat) : Int))) (by repeat (first | exact Pick.nil | exact Take.here | apply Pick.cons | apply Take.there))) ?_
  refine O_qs (q_build rfl (bld_91 (cs := [_, _, _, _]) rfl)) ?_
  refine O_qs (q_move rfl) ?_
  refine O_es (e_cf Try.call85 rfl (fun wd hwd => (tower_from _ tb cb key (-1) P g n ps ⟨rootP ((n - 1 : Nat) : Int), 0⟩ (n - 1) hP (by omega) hn)) (by repeat (first | exact Pick.nil | exact Take.here | apply Pick.cons | apply Take.there))) ?_
  rintro _ _ ⟨_, ⟨lb, P', hP', rfl, rfl⟩, rfl⟩
  refine O_nil ?_
  refine W_seq ?_
  refine W_reg rfl ?_
  refine O_qs (q_assign rfl) ?_
  refine O_nil ?_
  refine W_ret ?_
  refine res1 (c0 := [findA tb cb key (.slice (some ⟨g, 0, none⟩) n n) ((n - 1 : Nat) : Int), P', laneA lb cb (newLane ⟨rootP ((n - 1 : Nat) : Int), 0⟩ ((n - 1 : Nat) : Int) key false), coreA cb qb xc (epw (mem l epochP)) h r, A']) rfl rfl (by repeat (first | exact Pick.nil | exact Take.here | apply Pick.cons | apply Take.there)) rfl ?_
  exact ⟨lb, P', A', hP', hA', rfl, rfl⟩

theorem tower_Step1 (B : World) (tb cb qb lb : Nat) (key : Int) (P : Atom) (g n : Nat) (ps : List (Option Nat)) (x : Lane) (j : Nat) (xc : Conf) (e : Int) (h : Who) (r : Int) (A : Atom) (wb : Nat) (k : Count) (l : List (Plc × Int)) (hP : Row layPt 75 P (.slice (some ⟨g, 0, none⟩) n n) ps) (hn : ps.length = n) (hn2 : n ≤ 1000) (hj : j < n) (hl : ps[j]? = some (some lb)) (hx : LaneOk x) (hA : PlainIs A wb l k) :
    Ctr Try.prog 44 [ptr tb, wI wb] B [findA tb cb key (.slice (some ⟨g, 0, none⟩) n n) (j : Int), P, laneA lb cb x, coreA cb qb xc e h r, A]
      (fun u c => ∃ A', PlainIs A' wb (wrl l (x.step e r (mem l)).wr) (ldK k (x.step e r (mem l)).ld (x.step e r (mem l)).wr.isSome) ∧
        ((x.step e r (mem l)).st = 2 ∧ u = .int .i64 0 ∧ c = [findA tb cb key (.slice (some ⟨g, 0, none⟩) n n) (-1), P, laneA lb cb (x.step e r (mem l)).x, coreA cb qb xc e h (x.step e r (mem l)).r, A'] ∨
         (x.step e r (mem l)).st = 1 ∧ j = 0 ∧ u = .int .i64 1 ∧ c = [findA tb cb key (.slice (some ⟨g, 0, none⟩) n n) (j : Int), P, laneA lb cb (x.step e r (mem l)).x, coreA cb qb xc e h (x.step e r (mem l)).r, A'] ∨
         (∃ k' lb' P', (x.step e r (mem l)).st = 1 ∧ j = k' + 1 ∧ u = .int .i64 0 ∧ Row layPt 75 P' (.slice (some ⟨g, 0, none⟩) n n) (ps.set k' (some lb')) ∧ c = [findA tb cb key (.slice (some ⟨g, 0, none⟩) n n) (k' : Int), P', laneA lb' cb (newLane (belowP (x.step e r (mem l)).x.at_ k') k' key false), laneA lb cb (x.step e r (mem l)).x, coreA cb qb xc e h (x.step e r (mem l)).r, A']) ∨
         (x.step e r (mem l)).st ≠ 2 ∧ (x.step e r (mem l)).st ≠ 1 ∧ u = .int .i64 0 ∧ c = [findA tb cb key (.slice (some ⟨g, 0, none⟩) n n) (j : Int), P, laneA lb cb (x.step e r (mem l)).x, coreA cb qb xc e h (x.step e r (mem l)).r, A'])) := by
  refine Ctr.intro (n := 52) Try.func44 rfl Try.ntmps44 (Nat.le_of_ble_eq_true rfl) ?_
  refine W_seq ?_
  refine W_reg rfl ?_
  refine O_qs (q_assign rfl) ?_
  refine O_nil ?_
  refine W_seq ?_
  refine W_seq ?_
  refine W_reg rfl ?_
  refine O_qs (q_move rfl) ?_
  refine O_qs (q_eqnil Try.runUnderlying101 rfl rfl) ?_
  refine O_nil ?_
  refine W_false rfl ?_
  refine W_skip ?_
  refine W_seq ?_
  refine W_seq ?_
  refine W_reg rfl ?_
  refine O_qs (q_move rfl) ?_
  refine O_qs (q_nil rfl) ?_
  refine O_qs (q_fa fa_151_3 rfl) ?_
  refine O_qs (q_load Try.isAgg3 rfl (rd_chunk (by repeat (first | exact List.Mem.head _ | apply List.Mem.tail)) rfl)) ?_
  refine O_qs (q_lss rfl rfl) ?_
  refine O_nil ?_
  refine W_fa rfl ((by simp)) ?_
  refine W_skip ?_
  refine W_seq ?_
  refine W_seq ?_
  refine W_draw [[], [0], [0, 1], [0, 1, 2], [], [4], [4, 5], [4, 5, 6], [0, 1, 2, 3, 4, 5, 6, 7], [0, 1, 2, 3, 4, 5, 6, 7, 8], [], [0, 1, 2, 3, 4, 5, 6, 7, 8, 9, 10]] rfl rfl rfl ?_
  refine V.qs 0 rfl rfl (q_move rfl) ?_
  refine V.qs 1 rfl rfl (q_nil rfl) ?_
  refine V.qs 2 rfl rfl (q_fa fa_151_2 rfl) ?_
  refine V.qs 3 rfl rfl (q_load Try.isAgg149 rfl (rd_chunk (by repeat (first | exact List.Mem.head _ | apply List.Mem.tail)) rfl)) ?_
  refine V.qs 4 rfl rfl (q_move rfl) ?_
  refine V.qs 5 rfl rfl (q_nil rfl) ?_
  refine V.qs 6 rfl rfl (q_fa fa_151_3 rfl) ?_
  refine V.qs 7 rfl rfl (q_load Try.isAgg3 rfl (rd_chunk (by repeat (first | exact List.Mem.head _ | apply List.Mem.tail)) rfl)) ?_
  refine V.qs 8 rfl rfl (q_ian Try.runUnderlying149 Try.sizeOf75 rfl rfl hj) ?_
  refine V.qs 9 rfl rfl (q_load Try.isAgg75 rfl (hP.rd (by repeat (first | exact List.Mem.head _ | apply List.Mem.tail)) hl (j := 0) rfl (by show 0 + j * 1 = _; simp [layPt]))) ?_
  refine V.qs 10 rfl rfl (q_move rfl) ?_
  refine V.e1s 11 [] rfl rfl rfl (e_cf Try.call78 rfl (fun wd hwd => (lane_Step _ lb cb qb xc e h r x hx A wb k l hA)) (by repeat (first | exact Pick.nil | exact Take.here | apply Pick.cons | apply Take.there))) ?_
  rintro _ _ ⟨_, ⟨A', hA', rfl, rfl⟩, rfl⟩
  refine ⟨st_nil, ?_⟩
  refine V.fin rfl ?_
  refine W_block ?_
  refine W_seq ?_
  refine W_reg rfl ?_
  refine O_qs (q_eql rfl rfl) ?_
  refine O_qs (q_assign rfl) ?_
  refine O_nil ?_
  generalize x.step e r (mem l) = t at hA' ⊢
  refine W_cond rfl ?_ ?_
  · intro hc
    have h2 : t.st = 2 := of_decide_eq_true hc
    refine W_reg rfl ?_
    refine O_qs (q_move rfl) ?_
    refine O_qs (q_nil rfl) ?_
    refine O_qs (q_fa fa_151_3 rfl) ?_
    refine O_en (e_store Try.sizeOf3 rfl rfl rfl (by repeat (first | exact Upd.here | apply Upd.there)) rfl (by simp only [setAll, List.setIfInBounds_toArray, List.set_cons_succ, List.set_cons_zero, Nat.reduceAdd, Nat.zero_add] <;> rfl)) ?_
    rintro _ _ ⟨rfl, rfl⟩
    refine O_nil ?_
    refine W_seq ?_
    refine W_reg rfl ?_
    refine O_qs (q_assign rfl) ?_
    refine O_nil ?_
    refine W_ret ?_
    refine res1 (c0 := [findA tb cb key (.slice (some ⟨g, 0, none⟩) n n) (-1), P, laneA lb cb t.x, coreA cb qb xc e h t.r, A']) rfl rfl (by repeat (first | exact Pick.nil | exact Take.here | apply Pick.cons | apply Take.there)) rfl ?_
    exact ⟨A', hA', .inl ⟨h2, rfl, rfl⟩⟩
  intro hc
  have h2 : ¬ t.st = 2 := of_decide_eq_false hc
  refine W_seq ?_
  refine W_reg rfl ?_
  refine O_qs (q_eql rfl rfl) ?_
  refine O_qs (q_assign rfl) ?_
  refine O_nil ?_
  refine W_cond rfl ?_ ?_
  · intro hc
    have h1 : t.st = 1 := of_decide_eq_true hc
    refine W_seq ?_
    refine W_reg rfl ?_
    refine O_qs (q_move rfl) ?_
    cases j with
    | zero =>
      refine O_qs (q_cf Try.call86 rfl (fun wd hwd => (tower_down0 _ tb cb lb key P g n ps t.x)) (by repeat (first | exact Pick.nil | exact Take.here | apply Pick.cons | apply Take.there))) ?_
      refine O_qs (q_assign rfl) ?_
      refine O_nil ?_
      refine W_ret ?_
      refine res1 (c0 := [findA tb cb key (.slice (some ⟨g, 0, none⟩) n n) ((0 : Nat) : Int), P, laneA lb cb t.x, coreA cb qb xc e h t.r, A']) rfl rfl (by repeat (first | exact Pick.nil | exact Take.here | apply Pick.cons | apply Take.there)) rfl ?_
      exact ⟨A', hA', .inr (.inl ⟨h1, rfl, rfl, rfl⟩)⟩
    | succ k' =>
      refine O_es (e_cf Try.call86 rfl (fun wd hwd => (tower_down _ tb cb lb key P g n ps t.x k' hP hn hj hn2 hl)) (by repeat (first | exact Pick.nil | exact Take.here | apply Pick.cons | apply Take.there))) ?_
      rintro _ _ ⟨_, ⟨lb', P', hP', rfl, rfl⟩, rfl⟩
      refine O_qs (q_assign rfl) ?_
      refine O_nil ?_
      refine W_ret ?_
      refine res1 (c0 := [findA tb cb key (.slice (some ⟨g, 0, none⟩) n n) (k' : Int), P', laneA lb' cb (newLane (belowP t.x.at_ k') k' key false), laneA lb cb t.x, coreA cb qb xc e h t.r, A']) rfl rfl (by repeat (first | exact Pick.nil | exact Take.here | apply Pick.cons | apply Take.there)) rfl ?_
      exact ⟨A', hA', .inr (.inr (.inl ⟨k', lb', P', h1, rfl, rfl, hP', rfl⟩))⟩
  intro hc
  have h1 : ¬ t.st = 1 := of_decide_eq_false hc
  refine W_skip ?_
  refine W_seq ?_
  refine W_reg rfl ?_
  refine O_qs (q_assign rfl) ?_
  refine O_nil ?_
  refine W_ret ?_
  refine res1 (c0 := [findA tb cb key (.slice (some ⟨g, 0, none⟩) n n) (j : Int), P, laneA lb cb t.x, coreA cb qb xc e h t.r, A']) rfl rfl (by repeat (first | exact Pick.nil | exact Take.here | apply Pick.cons | apply Take.there)) rfl ?_
  exact ⟨A', hA', .inr (.inr (.inr ⟨h2, h1, rfl, rfl⟩))⟩

/-- The find of block tb. -/
def FindIs (T : Atom) (tb cb : Nat) (key : Int) (n : Nat) (f : FS) : Prop :=
  ∃ P g ps, Row layPt 75 P (.slice (some ⟨g, 0, none⟩) n n) ps ∧ ps.length = n ∧ ((f.level = -1 ∧ T = findA tb cb key (.slice (some ⟨g, 0, none⟩) n n) (-1) ++ P) ∨
    ∃ (j : Nat) (lb : Nat), f.level = j ∧ j < n ∧ ps[j]? = some (some lb) ∧ LaneOk f.x ∧ T = findA tb cb key (.slice (some ⟨g, 0, none⟩) n n) (j : Int) ++ P ++ laneA lb cb f.x)

theorem tower_Step (B : World) (T : Atom) (tb cb qb : Nat) (key : Int) (n : Nat) (f : FS) (xc : Conf) (h : Who) (A : Atom) (wb : Nat) (k : Count) (l : List (Plc × Int)) (hT : FindIs T tb cb key n f) (hn1 : 1 ≤ n ∧ n ≤ 1000) (hA : PlainIs A wb l k) :
    Ctr Try.prog 44 [ptr tb, wI wb] B [T, coreA cb qb xc f.e h f.r, A]
      (fun u c => ∃ T' A', FindIs T' tb cb key n (f.step n key (mem l)).f ∧ PlainIs A' wb (wrl l (f.step n key (mem l)).wr) (ldK k (f.step n key (mem l)).ld (f.step n key (mem l)).wr.isSome) ∧
        u = .int .i64 (f.step n key (mem l)).st ∧ c = [T', coreA cb qb xc (f.step n key (mem l)).f.e h (f.step n key (mem l)).f.r, A']) := by
  have hwd : ∀ p, Wd (mem l p) := hA.wds.mem
  obtain ⟨P, g, ps, hP, hn, ⟨hl, rfl⟩ | ⟨j, lb, hl, hj, hlb, hx, rfl⟩⟩ := hT
  · have e1 : ((n : Int) - 1) = ((n - 1 : Nat) : Int) := by omega
    have hs : f.step n key (mem l) = ⟨0, ⟨((n - 1 : Nat) : Int), newLane ⟨rootP ((n - 1 : Nat) : Int), 0⟩ ((n - 1 : Nat) : Int) key false, epw (mem l epochP), f.r⟩, none, true⟩ := by
      unfold FS.step
      rw [if_pos (by omega), e1]
    rw [hs]
    refine Ctr.conv (pre' := [findA tb cb key (.slice (some ⟨g, 0, none⟩) n n) (-1), P, coreA cb qb xc f.e h f.r, A]) rfl ?_
    intro hi'
    refine Calls.mono (tower_Step0 B tb cb qb key P g n ps xc f.e h f.r A wb k l hP hn hn1 hA hi') ?_
    rintro u w ⟨v, pst, he, hinv, lb, P', A', q1, q2, q3, rfl⟩
    refine ⟨v, [findA tb cb key (.slice (some ⟨g, 0, none⟩) n n) ((n - 1 : Nat) : Int) ++ P' ++ laneA lb cb (newLane ⟨rootP ((n - 1 : Nat) : Int), 0⟩ ((n - 1 : Nat) : Int) key false), coreA cb qb xc (epw (mem l epochP)) h f.r, A'], he, hinv.conv (by simp), _, A', ⟨P', g, _, q1, by simpa using hn, .inr ⟨n - 1, lb, rfl, by omega, by rw [List.getElem?_set_self (by omega)], ⟨⟨by show (0 : Int) ≤ ((n - 1 : Nat) : Int); omega, by show ((n - 1 : Nat) : Int) ≤ 1000000; omega⟩, (by decide : Wd 0), (by decide : Wd 0)⟩, rfl⟩⟩, q2, q3, rfl⟩
  · have hok := hx.step (e := f.e) (r := f.r) hwd
    have hnl : ¬ f.level < 0 := by omega
    rw [show coreA cb qb xc f.e h f.r = coreA cb qb xc f.e h f.r from rfl]
    refine Ctr.conv (pre' := [findA tb cb key (.slice (some ⟨g, 0, none⟩) n n) (j : Int), P, laneA lb cb f.x, coreA cb qb xc f.e h f.r, A]) (by simp) ?_
    intro hi'
    refine Calls.mono (tower_Step1 B tb cb qb lb key P g n ps f.x j xc f.e h f.r A wb k l hP hn hn1.2 hj hlb hx hA hi') ?_
    rintro u w ⟨v, pst, he, hinv, A', q1, q2⟩
    rcases q2 with ⟨s2, q3, rfl⟩ | ⟨s1, rfl, q3, rfl⟩ | ⟨k', lb', P', s1, rfl, q3, q4, rfl⟩ | ⟨s2, s1, q3, rfl⟩
    · have hs : f.step n key (mem l) = ⟨0, ⟨-1, (f.x.step f.e f.r (mem l)).x, f.e, (f.x.step f.e f.r (mem l)).r⟩, (f.x.step f.e f.r (mem l)).wr, (f.x.step f.e f.r (mem l)).ld⟩ := by
        unfold FS.step
        rw [if_neg hnl, if_pos s2]
      rw [hs]
      refine ⟨v, [findA tb cb key (.slice (some ⟨g, 0, none⟩) n n) (-1) ++ P, coreA cb qb xc f.e h (f.x.step f.e f.r (mem l)).r, A'], he, (hinv.pick (r := [laneA lb cb (f.x.step f.e f.r (mem l)).x]) (.cons .here (.cons .here (.cons (.there .here) (.cons (.there .here) .nil))))).conv (by simp), _, A', ⟨P, g, ps, hP, hn, .inl ⟨rfl, rfl⟩⟩, q1, q3, rfl⟩
    · have h0 : f.level = 0 := by omega
      have hs : f.step n key (mem l) = ⟨1, ⟨0, (f.x.step f.e f.r (mem l)).x, f.e, (f.x.step f.e f.r (mem l)).r⟩, (f.x.step f.e f.r (mem l)).wr, (f.x.step f.e f.r (mem l)).ld⟩ := by
        unfold FS.step
        rw [if_neg hnl, if_neg (by omega), if_pos s1, if_pos h0]
      rw [hs]
      refine ⟨v, [findA tb cb key (.slice (some ⟨g, 0, none⟩) n n) ((0 : Nat) : Int) ++ P ++ laneA lb cb (f.x.step f.e f.r (mem l)).x, coreA cb qb xc f.e h (f.x.step f.e f.r (mem l)).r, A'], he, hinv.conv (by simp), _, A', ⟨P, g, ps, hP, hn, .inr ⟨0, lb, rfl, hj, hlb, hok, rfl⟩⟩, q1, q3, rfl⟩
    · have h0 : ¬ f.level = 0 := by omega
      have e1 : f.level - 1 = (k' : Int) := by omega
      have hs : f.step n key (mem l) = ⟨0, ⟨(k' : Int), newLane (belowP (f.x.step f.e f.r (mem l)).x.at_ k') k' key false, f.e, (f.x.step f.e f.r (mem l)).r⟩, (f.x.step f.e f.r (mem l)).wr, (f.x.step f.e f.r (mem l)).ld⟩ := by
        unfold FS.step
        rw [if_neg hnl, if_neg (by omega), if_pos s1, if_neg h0, e1]
      rw [hs]
      refine ⟨v, [findA tb cb key (.slice (some ⟨g, 0, none⟩) n n) (k' : Int) ++ P' ++ laneA lb' cb (newLane (belowP (f.x.step f.e f.r (mem l)).x.at_ k') k' key false), coreA cb qb xc f.e h (f.x.step f.e f.r (mem l)).r, A'], he, (hinv.pick (r := [laneA lb cb (f.x.step f.e f.r (mem l)).x]) (.cons .here (.cons .here (.cons .here (.cons (.there .here) (.cons (.there .here) .nil)))))).conv (by simp), _, A', ⟨P', g, _, q4, by simpa using hn, .inr ⟨k', lb', rfl, by omega, by rw [List.getElem?_set_self (by omega)], ⟨⟨by show (0 : Int) ≤ (k' : Int); omega, by show (k' : Int) ≤ 1000000; omega⟩, (by decide : Wd 0), (by decide : Wd 0)⟩, rfl⟩⟩, q1, q3, rfl⟩
    · have hs : f.step n key (mem l) = ⟨0, ⟨f.level, (f.x.step f.e f.r (mem l)).x, f.e, (f.x.step f.e f.r (mem l)).r⟩, (f.x.step f.e f.r (mem l)).wr, (f.x.step f.e f.r (mem l)).ld⟩ := by
        unfold FS.step
        rw [if_neg hnl, if_neg s2, if_neg s1]
      rw [hs]
      refine ⟨v, [findA tb cb key (.slice (some ⟨g, 0, none⟩) n n) (j : Int) ++ P ++ laneA lb cb (f.x.step f.e f.r (mem l)).x, coreA cb qb xc f.e h (f.x.step f.e f.r (mem l)).r, A'], he, hinv.conv (by simp), _, A', ⟨P, g, ps, hP, hn, .inr ⟨j, lb, hl, hj, hlb, hok, rfl⟩⟩, q1, q3, rfl⟩
end Go.Proofs.Ytaphhhnnplljdaa
