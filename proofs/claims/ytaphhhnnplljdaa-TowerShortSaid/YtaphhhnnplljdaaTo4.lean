/-
  Walks: the anchor of the law of skip lists; a skip list laid.
-/
import Derived.Test.YtaphhhnnplljdaaTo3
set_option linter.unusedSimpArgs false
set_option linter.unusedVariables false
namespace Go.Proofs.Ytaphhhnnplljdaa
open Go Go.SL

theorem tower_go (B : World) (tb cb qb lb : Nat) (key : Int) (P : Atom) (g n : Nat) (ps : List (Option Nat)) (x x' : Lane) (j : Nat) (xc : Conf) (e : Int) (h : Who) (r r' : Int) (ld : Bool) (A : Atom) (wb : Nat) (k : Count) (l : List (Plc × Int)) (hP : Row layPt 75 P (.slice (some ⟨g, 0, none⟩) n n) ps) (hn : ps.length = n) (hn2 : n ≤ 1000) (hj : j < n) (hl : ps[j]? = some (some lb)) (hx : LaneOk x) (hA : PlainIs A wb l k)
    (hs : x.step e r (mem l) = ⟨0, x', r', none, ld⟩) :
    Ctr Try.prog 44 [ptr tb, wI wb] B [findA tb cb key (.slice (some ⟨g, 0, none⟩) n n) (j : Int), P, laneA lb cb x, coreA cb qb xc e h r, A]
      (fun u c => ∃ A' k', PlainIs A' wb l k' ∧ u = .int .i64 0 ∧ c = [findA tb cb key (.slice (some ⟨g, 0, none⟩) n n) (j : Int), P, laneA lb cb x', coreA cb qb xc e h r', A']) := by
  refine (tower_Step1 B tb cb qb lb key P g n ps x j xc e h r A wb k l hP hn hn2 hj hl hx hA).mono ?_
  rintro u c ⟨A', hA', hc⟩
  rw [hs] at hA' hc
  rcases hc with ⟨h1, _⟩ | ⟨h1, _⟩ | ⟨_, _, _, h1, _⟩ | ⟨_, _, h1, h2⟩
  · cases h1
  · cases h1
  · cases h1
  · exact ⟨A', _, hA', h1, h2⟩

theorem tower_fall (B : World) (tb cb qb lb : Nat) (key : Int) (P : Atom) (g n : Nat) (ps : List (Option Nat)) (x x' : Lane) (j : Nat) (xc : Conf) (e : Int) (h : Who) (r r' : Int) (ld : Bool) (A : Atom) (wb : Nat) (k : Count) (l : List (Plc × Int)) (hP : Row layPt 75 P (.slice (some ⟨g, 0, none⟩) n n) ps) (hn : ps.length = n) (hn2 : n ≤ 1000) (hj : j + 1 < n) (hl : ps[j + 1]? = some (some lb)) (hx : LaneOk x) (hA : PlainIs A wb l k)
    (hs : x.step e r (mem l) = ⟨1, x', r', none, ld⟩) :
    Ctr Try.prog 44 [ptr tb, wI wb] B [findA tb cb key (.slice (some ⟨g, 0, none⟩) n n) ((j + 1 : Nat) : Int), P, laneA lb cb x, coreA cb qb xc e h r, A]
      (fun u c => ∃ A' k' lb' P', PlainIs A' wb l k' ∧ Row layPt 75 P' (.slice (some ⟨g, 0, none⟩) n n) (ps.set j (some lb')) ∧ u = .int .i64 0 ∧ c = [findA tb cb key (.slice (some ⟨g, 0, none⟩) n n) (j : Int), P', laneA lb' cb (newLane (belowP x'.at_ j) j key false), laneA lb cb x', coreA cb qb xc e h r', A']) := by
  refine (tower_Step1 B tb cb qb lb key P g n ps x (j + 1) xc e h r A wb k l hP hn hn2 hj hl hx hA).mono ?_
  rintro u c ⟨A', hA', hc⟩
  rw [hs] at hA' hc
  rcases hc with ⟨h1, _⟩ | ⟨_, h1, _⟩ | ⟨k', lb', P', _, h1, h2, h3, h4⟩ | ⟨_, h1, _⟩
  · cases h1
  · cases h1
  · obtain rfl : j = k' := by omega
    exact ⟨A', _, lb', P', hA', h3, h2, h4⟩
  · exact absurd rfl h1

theorem tower_end (B : World) (tb cb qb lb : Nat) (key : Int) (P : Atom) (g n : Nat) (ps : List (Option Nat)) (x x' : Lane) (xc : Conf) (e : Int) (h : Who) (r r' : Int) (ld : Bool) (A : Atom) (wb : Nat) (k : Count) (l : List (Plc × Int)) (hP : Row layPt 75 P (.slice (some ⟨g, 0, none⟩) n n) ps) (hn : ps.length = n) (hn2 : n ≤ 1000) (hj : 0 < n) (hl : ps[0]? = some (some lb)) (hx : LaneOk x) (hA : PlainIs A wb l k)
    (hs : x.step e r (mem l) = ⟨1, x', r', none, ld⟩) :
    Ctr Try.prog 44 [ptr tb, wI wb] B [findA tb cb key (.slice (some ⟨g, 0, none⟩) n n) ((0 : Nat) : Int), P, laneA lb cb x, coreA cb qb xc e h r, A]
      (fun u c => ∃ A' k', PlainIs A' wb l k' ∧ u = .int .i64 1 ∧ c = [findA tb cb key (.slice (some ⟨g, 0, none⟩) n n) ((0 : Nat) : Int), P, laneA lb cb x', coreA cb qb xc e h r', A']) := by
  refine (tower_Step1 B tb cb qb lb key P g n ps x 0 xc e h r A wb k l hP hn hn2 hj hl hx hA).mono ?_
  rintro u c ⟨A', hA', hc⟩
  rw [hs] at hA' hc
  rcases hc with ⟨h1, _⟩ | ⟨_, _, h1, h2⟩ | ⟨_, _, _, _, h1, _⟩ | ⟨_, h1, _⟩
  · cases h1
  · exact ⟨A', _, hA', h1, h2⟩
  · cases h1
  · exact absurd rfl h1

theorem tower_lane (B : World) (tb cb : Nat) (key lev : Int) (P : Atom) (g n : Nat) (ps : List (Option Nat)) (j : Nat) (o : Option Nat) (hP : Row layPt 75 P (.slice (some ⟨g, 0, none⟩) n n) ps) (hj : j < n) (hl : ps[j]? = some o) :
    Ctr Try.prog 107 [ptr tb, .int .i64 (j : Int)] B [findA tb cb key (.slice (some ⟨g, 0, none⟩) n n) lev, P]
      (fun u c => u = .pointer (o.map fun b => ⟨b, 0, none⟩) ∧ c = [findA tb cb key (.slice (some ⟨g, 0, none⟩) n n) lev, P]) := by
  have hj1 : decide ((j : Int) < 0) = false := by simp
  have hj2 : decide ((n : Int) ≤ (j : Int)) = false := by simp; omega
  refine Ctr.intro (n := 27) Try.func107 rfl Try.ntmps107 (Nat.le_of_ble_eq_true rfl) ?_
  refine W_seq ?_
  refine W_reg rfl ?_
  refine O_qs (q_assign rfl) ?_
  refine O_nil ?_
  refine W_seq ?_
  refine W_seq ?_
  refine W_reg rfl ?_
  refine O_qs (q_move rfl) ?_
  refine O_qs (q_eqnil Try.runUnderlying101 rfl rfl) ?_
  refine O_qs (q_move rfl) ?_
  refine O_qs (QY.guard rfl rfl rfl (q_move rfl)) ?_
  refine O_qs (QY.guard rfl rfl rfl (q_lss rfl rfl)) ?_
  refine O_qs (q_pick_f rfl rfl) ?_
  rw [hj1]
  refine O_qs (q_move rfl) ?_
  refine O_qs (QY.guard rfl rfl rfl (q_move rfl)) ?_
  refine O_qs (QY.guard rfl rfl rfl (q_move rfl)) ?_
  refine O_qs (QY.guard rfl rfl rfl (q_nil rfl)) ?_
  refine O_qs (QY.guard rfl rfl rfl (q_fa fa_151_2 rfl)) ?_
  refine O_qs (QY.guard rfl rfl rfl (q_load Try.isAgg149 rfl (rd_chunk (by repeat (first | exact List.Mem.head _ | apply List.Mem.tail)) rfl))) ?_
  refine O_qs (QY.guard rfl rfl rfl (q_len Try.runUnderlying149 rfl)) ?_
  refine O_qs (QY.guard rfl rfl rfl (q_geq rfl rfl)) ?_
  refine O_qs (q_pick_f rfl rfl) ?_
  refine O_nil ?_
  refine W_fa rfl (hj2) ?_
  refine W_skip ?_
  refine W_seq ?_
  refine W_reg rfl ?_
  refine O_qs (q_move rfl) ?_
  refine O_qs (q_nil rfl) ?_
  refine O_qs (q_fa fa_151_2 rfl) ?_
  refine O_qs (q_load Try.isAgg149 rfl (rd_chunk (by repeat (first | exact List.Mem.head _ | apply List.Mem.tail)) rfl)) ?_
  refine O_qs (q_move rfl) ?_
  refine O_qs (q_ian Try.runUnderlying149 Try.sizeOf75 rfl rfl hj) ?_
  refine O_qs (q_load Try.isAgg75 rfl (hP.rd (by repeat (first | exact List.Mem.head _ | apply List.Mem.tail)) hl (j := 0) rfl (by show 0 + j * 1 = _; simp [layPt]))) ?_
  refine O_qs (q_assign rfl) ?_
  refine O_nil ?_
  refine W_ret ?_
  refine res1 (c0 := [findA tb cb key (.slice (some ⟨g, 0, none⟩) n n) lev, P]) rfl rfl (by repeat (first | exact Pick.nil | exact Take.here | apply Pick.cons | apply Take.there)) rfl ?_
  exact ⟨rfl, rfl⟩

theorem tower_lane_out (B : World) (tb cb : Nat) (key lev : Int) (P : Atom) (g n : Nat) (j : Nat) (hj : n ≤ j) :
    Ctr Try.prog 107 [ptr tb, .int .i64 (j : Int)] B [findA tb cb key (.slice (some ⟨g, 0, none⟩) n n) lev, P]
      (fun u c => u = .pointer none ∧ c = [findA tb cb key (.slice (some ⟨g, 0, none⟩) n n) lev, P]) := by
  have hj1 : decide ((j : Int) < 0) = false := by simp
  have hj2 : decide ((n : Int) ≤ (j : Int)) = true := by simp; omega
  refine Ctr.intro (n := 27) Try.func107 rfl Try.ntmps107 (Nat.le_of_ble_eq_true rfl) ?_
  refine W_seq ?_
  refine W_reg rfl ?_
  refine O_qs (q_assign rfl) ?_
  refine O_nil ?_
  refine W_seq ?_
  refine W_seq ?_
  refine W_reg rfl ?_
  refine O_qs (q_move rfl) ?_
  refine O_qs (q_eqnil Try.runUnderlying101 rfl rfl) ?_
  refine O_qs (q_move rfl) ?_
  refine O_qs (QY.guard rfl rfl rfl (q_move rfl)) ?_
  refine O_qs (QY.guard rfl rfl rfl (q_lss rfl rfl)) ?_
  refine O_qs (q_pick_f rfl rfl) ?_
  rw [hj1]
  refine O_qs (q_move rfl) ?_
  refine O_qs (QY.guard rfl rfl rfl (q_move rfl)) ?_
  refine O_qs (QY.guard rfl rfl rfl (q_move rfl)) ?_
  refine O_qs (QY.guard rfl rfl rfl (q_nil rfl)) ?_
  refine O_qs (QY.guard rfl rfl rfl (q_fa fa_151_2 rfl)) ?_
  refine O_qs (QY.guard rfl rfl rfl (q_load Try.isAgg149 rfl (rd_chunk (by repeat (first | exact List.Mem.head _ | apply List.Mem.tail)) rfl))) ?_
  refine O_qs (QY.guard rfl rfl rfl (q_len Try.runUnderlying149 rfl)) ?_
  refine O_qs (QY.guard rfl rfl rfl (q_geq rfl rfl)) ?_
  refine O_qs (q_pick_f rfl rfl) ?_
  refine O_nil ?_
  refine W_tr rfl (hj2) ?_
  refine W_seq ?_
  refine W_reg rfl ?_
  refine O_qs (q_assign rfl) ?_
  refine O_nil ?_
  refine W_ret ?_
  refine res1 (c0 := [findA tb cb key (.slice (some ⟨g, 0, none⟩) n n) lev, P]) rfl rfl (by repeat (first | exact Pick.nil | exact Take.here | apply Pick.cons | apply Take.there)) rfl ?_
  exact ⟨rfl, rfl⟩

theorem lane_At_nil (B : World) : Ctr Try.prog 38 [.pointer none] B [] (fun u c => u = (At.mk ⟨0, 0, 0⟩ 0).v ∧ c = []) := by
  refine Ctr.intro (n := 10) Try.func38 rfl Try.ntmps38 (Nat.le_of_ble_eq_true rfl) ?_
  refine W_seq ?_
  refine W_reg rfl ?_
  refine O_es (e_alloc (cs := #[.int .i64 0, .int .i64 0, .int .i64 0, .int .i64 0]) Try.zeroValue91 rfl) ?_
  rintro _ _ ⟨b2, rfl, rfl⟩
  refine O_nil ?_
  refine W_seq ?_
  refine W_seq ?_
  refine W_reg rfl ?_
  refine O_qs (q_move rfl) ?_
  refine O_qs (q_eqnil Try.runUnderlying75 rfl rfl) ?_
  refine O_nil ?_
  refine W_true rfl ?_
  refine W_seq ?_
  refine W_reg rfl ?_
  refine O_qs (q_build rfl (bld_91 (cs := [_, _, _, _]) rfl)) ?_
  refine O_en (e_storeN (vs := [_, _, _, _]) Try.sizeOf91 rfl rfl rfl (by repeat (first | exact Upd.here | apply Upd.there)) rfl (by simp only [setAll, List.setIfInBounds_toArray, List.set_cons_succ, List.set_cons_zero, Nat.reduceAdd, Nat.zero_add] <;> rfl)) ?_
  rintro _ _ ⟨rfl, rfl⟩
  refine O_nil ?_
  refine W_ret ?_
  refine resL (c0 := []) rfl (.cell (us := [_, _, _, _]) Try.isAgg91 Try.sizeOf91 rfl (rd_range (by repeat (first | exact List.Mem.head _ | apply List.Mem.tail)) rfl) .nil) (by repeat (first | exact Pick.nil | exact Take.here | apply Pick.cons | apply Take.there)) rfl ?_
  exact ⟨rfl, rfl⟩

theorem tower_At (B : World) (tb cb lb : Nat) (key lev : Int) (P : Atom) (g n : Nat) (ps : List (Option Nat)) (j : Nat) (x : Lane) (hP : Row layPt 75 P (.slice (some ⟨g, 0, none⟩) n n) ps) (hj : j < n) (hl : ps[j]? = some (some lb)) :
    Ctr Try.prog 84 [ptr tb, .int .i64 (j : Int)] B [findA tb cb key (.slice (some ⟨g, 0, none⟩) n n) lev, P, laneA lb cb x]
      (fun u c => u = x.at_.v ∧ c = [findA tb cb key (.slice (some ⟨g, 0, none⟩) n n) lev, P, laneA lb cb x]) := by
  refine Ctr.intro (n := 9) Try.func84 rfl Try.ntmps84 (Nat.le_of_ble_eq_true rfl) ?_
  refine W_seq ?_
  refine W_reg rfl ?_
  refine O_es (e_alloc (cs := #[.int .i64 0, .int .i64 0, .int .i64 0, .int .i64 0]) Try.zeroValue91 rfl) ?_
  rintro _ _ ⟨b4, rfl, rfl⟩
  refine O_nil ?_
  refine W_seq ?_
  refine W_reg rfl ?_
  refine O_qs (q_move rfl) ?_
  refine O_qs (q_move rfl) ?_
  refine O_qs (q_cf Try.call107 rfl (fun wd hwd => (tower_lane _ tb cb key lev P g n ps j (some lb) hP hj hl)) (by repeat (first | exact Pick.nil | exact Take.here | apply Pick.cons | apply Take.there))) ?_
  refine O_qs (q_cf Try.call38 rfl (fun wd hwd => (lane_At _ lb cb x)) (by repeat (first | exact Pick.nil | exact Take.here | apply Pick.cons | apply Take.there))) ?_
  refine O_en (e_storeN (vs := [_, _, _, _]) Try.sizeOf91 rfl rfl rfl (by repeat (first | exact Upd.here | apply Upd.there)) rfl (by simp only [setAll, List.setIfInBounds_toArray, List.set_cons_succ, List.set_cons_zero, Nat.reduceAdd, Nat.zero_add] <;> rfl)) ?_
  rintro _ _ ⟨rfl, rfl⟩
  refine O_nil ?_
  refine W_ret ?_
  refine resL (c0 := [findA tb cb key (.slice (some ⟨g, 0, none⟩) n n) lev, P, laneA lb cb x]) rfl (.cell (us := [_, _, _, _]) Try.isAgg91 Try.sizeOf91 rfl (rd_range (by repeat (first | exact List.Mem.head _ | apply List.Mem.tail)) rfl) .nil) (by repeat (first | exact Pick.nil | exact Take.here | apply Pick.cons | apply Take.there)) rfl ?_
  exact ⟨rfl, rfl⟩

theorem tower_At_out (B : World) (tb cb : Nat) (key lev : Int) (P : Atom) (g n : Nat) (j : Nat) (hj : n ≤ j) :
    Ctr Try.prog 84 [ptr tb, .int .i64 (j : Int)] B [findA tb cb key (.slice (some ⟨g, 0, none⟩) n n) lev, P]
      (fun u c => u = (At.mk ⟨0, 0, 0⟩ 0).v ∧ c = [findA tb cb key (.slice (some ⟨g, 0, none⟩) n n) lev, P]) := by
  refine Ctr.intro (n := 9) Try.func84 rfl Try.ntmps84 (Nat.le_of_ble_eq_true rfl) ?_
  refine W_seq ?_
  refine W_reg rfl ?_
  refine O_es (e_alloc (cs := #[.int .i64 0, .int .i64 0, .int .i64 0, .int .i64 0]) Try.zeroValue91 rfl) ?_
  rintro _ _ ⟨b4, rfl, rfl⟩
  refine O_nil ?_
  refine W_seq ?_
  refine W_reg rfl ?_
  refine O_qs (q_move rfl) ?_
  refine O_qs (q_move rfl) ?_
  refine O_qs (q_cf Try.call107 rfl (fun wd hwd => (tower_lane_out _ tb cb key lev P g n j hj)) (by repeat (first | exact Pick.nil | exact Take.here | apply Pick.cons | apply Take.there))) ?_
  refine O_qs (q_cf Try.call38 rfl (fun wd hwd => (lane_At_nil _)) (by repeat (first | exact Pick.nil | exact Take.here | apply Pick.cons | apply Take.there))) ?_
  refine O_en (e_storeN (vs := [_, _, _, _]) Try.sizeOf91 rfl rfl rfl (by repeat (first | exact Upd.here | apply Upd.there)) rfl (by simp only [setAll, List.setIfInBounds_toArray, List.set_cons_succ, List.set_cons_zero, Nat.reduceAdd, Nat.zero_add] <;> rfl)) ?_
  rintro _ _ ⟨rfl, rfl⟩
  refine O_nil ?_
  refine W_ret ?_
  refine resL (c0 := [findA tb cb key (.slice (some ⟨g, 0, none⟩) n n) lev, P]) rfl (.cell (us := [_, _, _, _]) Try.isAgg91 Try.sizeOf91 rfl (rd_range (by repeat (first | exact List.Mem.head _ | apply List.Mem.tail)) rfl) .nil) (by repeat (first | exact Pick.nil | exact Take.here | apply Pick.cons | apply Take.there)) rfl ?_
  exact ⟨rfl, rfl⟩

theorem tower_Found (B : World) (tb cb lb : Nat) (key lev : Int) (P : Atom) (g n : Nat) (ps : List (Option Nat)) (x : Lane) (hP : Row layPt 75 P (.slice (some ⟨g, 0, none⟩) n n) ps) (hj : 0 < n) (hl : ps[0]? = some (some lb)) :
    Ctr Try.prog 83 [ptr tb] B [findA tb cb key (.slice (some ⟨g, 0, none⟩) n n) lev, P, laneA lb cb x]
      (fun u c => u = .bool x.found ∧ c = [findA tb cb key (.slice (some ⟨g, 0, none⟩) n n) lev, P, laneA lb cb x]) := by
  refine Ctr.intro (n := 6) Try.func83 rfl Try.ntmps83 (Nat.le_of_ble_eq_true rfl) ?_
  refine W_seq ?_
  refine W_reg rfl ?_
  refine O_qs (q_assign rfl) ?_
  refine O_nil ?_
  refine W_seq ?_
  refine W_reg rfl ?_
  refine O_qs (q_move rfl) ?_
  refine O_qs (q_cf Try.call107 rfl (fun wd hwd => (tower_lane _ tb cb key lev P g n ps 0 (some lb) hP hj hl)) (by repeat (first | exact Pick.nil | exact Take.here | apply Pick.cons | apply Take.there))) ?_
  refine O_qs (q_cf Try.call27 rfl (fun wd hwd => (lane_Found _ lb cb x)) (by repeat (first | exact Pick.nil | exact Take.here | apply Pick.cons | apply Take.there))) ?_
  refine O_qs (q_assign rfl) ?_
  refine O_nil ?_
  refine W_ret ?_
  refine res1 (c0 := [findA tb cb key (.slice (some ⟨g, 0, none⟩) n n) lev, P, laneA lb cb x]) rfl rfl (by repeat (first | exact Pick.nil | exact Take.here | apply Pick.cons | apply Take.there)) rfl ?_
  exact ⟨rfl, rfl⟩

def cf18 (h : Nat) : Conf := ⟨3, 1000, 0, h, 1073741824⟩
theorem cf18_ok : ∀ h : Nat, h < 17 → 1 ≤ h → (cf18 h).err = 0 := by decide
theorem law18_skip (B : World) (h : Nat) : Ctr Try.prog 43 [.int .i64 (h : Int)] B [] (fun u c => u = (cf18 h).v ∧ c = []) := by
  refine Ctr.intro (n := 5) Try.func43 rfl Try.ntmps43 (Nat.le_of_ble_eq_true rfl) ?_
  refine W_seq ?_
  refine W_reg rfl ?_
  refine O_es (e_alloc (cs := #[.int .i64 0, .int .i64 0, .int .i64 0, .int .i64 0, .int .i64 0]) Try.zeroValue23 rfl) ?_
  rintro _ _ ⟨b2, rfl, rfl⟩
  refine O_nil ?_
  refine W_seq ?_
  refine W_reg rfl ?_
  refine O_qs (q_move rfl) ?_
  refine O_qs (q_build rfl (bld_23 (cs := [_, _, _, _, _]) rfl)) ?_
  refine O_en (e_storeN (vs := [_, _, _, _, _]) Try.sizeOf23 rfl rfl rfl (by repeat (first | exact Upd.here | apply Upd.there)) rfl (by simp only [setAll, List.setIfInBounds_toArray, List.set_cons_succ, List.set_cons_zero, Nat.reduceAdd, Nat.zero_add] <;> rfl)) ?_
  rintro _ _ ⟨rfl, rfl⟩
  refine O_nil ?_
  refine W_ret ?_
  refine resL (c0 := []) rfl (.cell (us := [_, _, _, _, _]) Try.isAgg23 Try.sizeOf23 rfl (rd_range (by repeat (first | exact List.Mem.head _ | apply List.Mem.tail)) rfl) .nil) (by repeat (first | exact Pick.nil | exact Take.here | apply Pick.cons | apply Take.there)) rfl ?_
  exact ⟨rfl, rfl⟩

/-! ### The anchor -/
def m18 : Mem := mem (putw [] epochP 1)
def lnA (lv : Int) : Lane := newLane ⟨rootP lv, 0⟩ lv 5 false
def lnB (lv : Int) : Lane := { lnA lv with pc := 1 }
def lnC (lv : Int) : Lane := { lnA lv with pc := 2 }
theorem m18_root (lv : Int) : m18 (rootP lv) = 0 := by
  unfold m18
  rw [mem_putw _ (show Keys [] from List.nodup_nil), if_neg (by simp [rootP, epochP])]
  rfl
theorem m18_ep : m18 epochP = 1 := by
  unfold m18
  rw [mem_putw _ (show Keys [] from List.nodup_nil), if_pos rfl]
theorem lnA_step (lv r : Int) : (lnA lv).step 1 r m18 = ⟨0, lnB lv, r, none, true⟩ := by
  show (LS.mk 0 { lnA lv with pc := 1, into := ⟨m18 (rootP lv), 0, false⟩ } r none true) = _
  rw [m18_root]
  rfl
theorem lnB_step (lv r : Int) : (lnB lv).step 1 r m18 = ⟨1, lnC lv, r, none, true⟩ := by
  have h : m18 epochP = IntKind.u64.wrap 1 := m18_ep.trans (by decide)
  have hp : (lnB lv).pc = 1 := rfl
  unfold Lane.step
  rw [if_neg (by rw [hp]; decide), if_neg (by rw [hp]; decide), if_neg (by rw [hp]; decide), if_neg (by rw [hp]; decide), if_neg (by rw [hp]; decide), if_pos h]
  rfl
theorem lnA_ok {lv : Int} (h : 0 ≤ lv ∧ lv ≤ 1000) : LaneOk (lnA lv) := ⟨⟨h.1, by show lv ≤ 1000000; omega⟩, (by decide : Wd 0), (by decide : Wd 0)⟩
theorem lnB_ok {lv : Int} (h : 0 ≤ lv ∧ lv ≤ 1000) : LaneOk (lnB lv) := ⟨⟨h.1, by show lv ≤ 1000000; omega⟩, (by decide : Wd 0), (by decide : Wd 0)⟩

theorem law18_awake (B : World) : Ctr Try.prog 39 [] B [] (fun u c => u = .bool true ∧ c = []) := by
  refine Ctr.intro (n := 61) Try.func39 rfl Try.ntmps39 (Nat.le_of_ble_eq_true rfl) ?_
  refine W_seq ?_
  refine W_reg rfl ?_
  refine O_qs (q_assign rfl) ?_
  refine O_nil ?_
  refine W_seq ?_
  refine W_reg rfl ?_
  refine O_es (e_cf Try.call10 rfl (fun wd hwd => (world_New _)) (by repeat (first | exact Pick.nil | exact Take.here | apply Pick.cons | apply Take.there))) ?_
  rintro _ _ ⟨_, ⟨wb, A, hA, rfl, rfl⟩, rfl⟩
  refine O_qs (q_assign rfl) ?_
  refine O_nil ?_
  refine W_seq ?_
  refine W_reg rfl ?_
  refine O_qs (q_move rfl) ?_
  refine O_qs (q_mkI mki_35 rfl) ?_
  refine O_es (e_cf Try.call47 rfl (fun wd hwd => (world_Start _ A wb _ _ hA)) (by repeat (first | exact Pick.nil | exact Take.here | apply Pick.cons | apply Take.there))) ?_
  rintro _ _ ⟨_, ⟨A1, hA1, rfl, rfl⟩, rfl⟩
  refine O_nil ?_
  refine W_seq ?_
  refine W_reg rfl ?_
  refine O_qs (q_cf Try.call43 rfl (fun wd hwd => (law18_skip _ 2)) (by repeat (first | exact Pick.nil | exact Take.here | apply Pick.cons | apply Take.there))) ?_
  refine O_es (e_cf Try.call8 rfl (fun wd hwd => (core_New_ok _ (cf18 2) (cf18_ok 2 (by decide) (by decide)))) (by repeat (first | exact Pick.nil | exact Take.here | apply Pick.cons | apply Take.there))) ?_
  rintro _ _ ⟨_, ⟨cb, qb, Q, qv, ring, qk, qh, hq, rfl, rfl⟩, rfl⟩
  refine O_es (e_cf Try.call42 rfl (fun wd hwd => (tower_New _ cb qb (cf18 2) 0 ⟨0, 0⟩ 0 5 2 rfl rfl (by decide))) (by repeat (first | exact Pick.nil | exact Take.here | apply Pick.cons | apply Take.there))) ?_
  rintro _ _ ⟨_, ⟨tb, P, g, hP, rfl, rfl⟩, rfl⟩
  refine O_qs (q_assign rfl) ?_
  refine O_nil ?_
  refine W_seq ?_
  refine W_reg rfl ?_
  refine O_qs (q_assign rfl) ?_
  refine O_nil ?_
  refine W_seq ?_
  refine W_reg rfl ?_
  refine O_qs (q_assign rfl) ?_
  refine O_nil ?_
  refine W_seq ?_
  refine W_block ?_
  have ep1 : epw (mem (putw [] epochP 1) epochP) = 1 := by rw [show mem (putw [] epochP 1) epochP = 1 from m18_ep]; rfl
  have hbl : belowP (lnC 1).at_ ((0 : Nat) : Int) = ⟨rootP 0, 0⟩ := by
    unfold belowP
    rw [if_pos (by decide)]
    rfl
  refine W_unroll ?_
  refine W_seq ?_
  refine W_seq ?_
  refine W_reg rfl ?_
  refine O_qs (q_move rfl) ?_
  refine O_qs (q_lss rfl rfl) ?_
  refine O_qs (q_move rfl) ?_
  refine O_qs (QY.cond0 rfl rfl rfl (fun H => q_move rfl)) ?_
  refine O_qs (QY.cond0 rfl rfl rfl (fun H => q_eql (gvh rfl H) rfl)) ?_
  refine O_qs (q_and rfl rfl rfl) ?_
  refine O_nil ?_
  refine W_true rfl ?_
  refine W_skip ?_
  refine W_block ?_
  refine W_seq ?_
  refine W_reg rfl ?_
  refine O_qs (q_move rfl) ?_
  refine O_qs (q_move rfl) ?_
  refine O_qs (q_mkI mki_35 rfl) ?_
  refine O_es (e_cf Try.call44 rfl (fun wd hwd => (tower_Step0 _ tb cb qb 5 P g 2 (List.replicate 2 none) (cf18 2) 0 ⟨0, 0⟩ 0 A1 wb _ _ hP rfl (by decide) hA1)) (by repeat (first | exact Pick.nil | exact Take.here | apply Pick.cons | apply Take.there))) ?_
  rintro _ _ ⟨_, ⟨lb1, P1, A2, hP1, hA2, rfl, rfl⟩, rfl⟩
  refine O_qs (q_assign rfl) ?_
  refine O_nil ?_
  refine W_reg rfl ?_
  refine O_qs (q_move rfl) ?_
  refine O_qs (q_add (w64 (by omega)) rfl rfl) ?_
  refine O_qs (q_assign rfl) ?_
  refine O_nil ?_
  rw [ep1]
  have hP1' : Row layPt 75 P1 (.slice (some ⟨g, 0, none⟩) 2 2) [none, some lb1] := hP1
  refine L_unroll ?_
  refine W_seq ?_
  refine W_seq ?_
  refine W_reg rfl ?_
  refine O_qs (q_move rfl) ?_
  refine O_qs (q_lss rfl rfl) ?_
  refine O_qs (q_move rfl) ?_
  refine O_qs (QY.cond0 rfl rfl rfl (fun H => q_move rfl)) ?_
  refine O_qs (QY.cond0 rfl rfl rfl (fun H => q_eql (gvh rfl H) rfl)) ?_
  refine O_qs (q_and rfl rfl rfl) ?_
  refine O_nil ?_
  refine W_true rfl ?_
  refine W_skip ?_
  refine W_block ?_
  refine W_seq ?_
  refine W_reg rfl ?_
  refine O_qs (q_move rfl) ?_
  refine O_qs (q_move rfl) ?_
  refine O_qs (q_mkI mki_35 rfl) ?_
  refine O_es (e_cf Try.call44 rfl (fun wd hwd => (tower_go _ tb cb qb lb1 5 P1 g 2 [none, some lb1] (lnA 1) (lnB 1) 1 (cf18 2) 1 ⟨0, 0⟩ 0 0 true A2 wb _ _ hP1' rfl (by decide) (by decide) rfl (lnA_ok (by decide)) hA2 (lnA_step 1 0))) (by repeat (first | exact Pick.nil | exact Take.here | apply Pick.cons | apply Take.there))) ?_
  rintro _ _ ⟨_, ⟨A3, k3, hA3, rfl, rfl⟩, rfl⟩
  refine O_qs (q_assign rfl) ?_
  refine O_nil ?_
  refine W_reg rfl ?_
  refine O_qs (q_move rfl) ?_
  refine O_qs (q_add (w64 (by omega)) rfl rfl) ?_
  refine O_qs (q_assign rfl) ?_
  refine O_nil ?_
  refine L_unroll ?_
  refine W_seq ?_
  refine W_seq ?_
  refine W_reg rfl ?_
  refine O_qs (q_move rfl) ?_
  refine O_qs (q_lss rfl rfl) ?_
  refine O_qs (q_move rfl) ?_
  refine O_qs (QY.cond0 rfl rfl rfl (fun H => q_move rfl)) ?_
  refine O_qs (QY.cond0 rfl rfl rfl (fun H => q_eql (gvh rfl H) rfl)) ?_
  refine O_qs (q_and rfl rfl rfl) ?_
  refine O_nil ?_
  refine W_true rfl ?_
  refine W_skip ?_
  refine W_block ?_
  refine W_seq ?_
  refine W_reg rfl ?_
  refine O_qs (q_move rfl) ?_
  refine O_qs (q_move rfl) ?_
  refine O_qs (q_mkI mki_35 rfl) ?_
  refine O_es (e_cf Try.call44 rfl (fun wd hwd => (tower_fall _ tb cb qb lb1 5 P1 g 2 [none, some lb1] (lnB 1) (lnC 1) 0 (cf18 2) 1 ⟨0, 0⟩ 0 0 true A3 wb _ _ hP1' rfl (by decide) (by decide) rfl (lnB_ok (by decide)) hA3 (lnB_step 1 0))) (by repeat (first | exact Pick.nil | exact Take.here | apply Pick.cons | apply Take.there))) ?_
  rintro _ _ ⟨_, ⟨A4, k4, lb0, P2, hA4, hP2, rfl, rfl⟩, rfl⟩
  refine O_qs (q_assign rfl) ?_
  refine O_nil ?_
  refine W_reg rfl ?_
  refine O_qs (q_move rfl) ?_
  refine O_qs (q_add (w64 (by omega)) rfl rfl) ?_
  refine O_qs (q_assign rfl) ?_
  refine O_nil ?_
  rw [hbl]
  have hP2' : Row layPt 75 P2 (.slice (some ⟨g, 0, none⟩) 2 2) [some lb0, some lb1] := hP2
  refine L_unroll ?_
  refine W_seq ?_
  refine W_seq ?_
  refine W_reg rfl ?_
  refine O_qs (q_move rfl) ?_
  refine O_qs (q_lss rfl rfl) ?_
  refine O_qs (q_move rfl) ?_
  refine O_qs (QY.cond0 rfl rfl rfl (fun H => q_move rfl)) ?_
  refine O_qs (QY.cond0 rfl rfl rfl (fun H => q_eql (gvh rfl H) rfl)) ?_
  refine O_qs (q_and rfl rfl rfl) ?_
  refine O_nil ?_
  refine W_true rfl ?_
  refine W_skip ?_
  refine W_block ?_
  refine W_seq ?_
  refine W_reg rfl ?_
  refine O_qs (q_move rfl) ?_
  refine O_qs (q_move rfl) ?_
  refine O_qs (q_mkI mki_35 rfl) ?_
  refine O_es (e_cf Try.call44 rfl (fun wd hwd => (tower_go _ tb cb qb lb0 5 P2 g 2 [some lb0, some lb1] (lnA 0) (lnB 0) 0 (cf18 2) 1 ⟨0, 0⟩ 0 0 true A4 wb _ _ hP2' rfl (by decide) (by decide) rfl (lnA_ok (by decide)) hA4 (lnA_step 0 0))) (by repeat (first | exact Pick.nil | exact Take.here | apply Pick.cons | apply Take.there))) ?_
  rintro _ _ ⟨_, ⟨A5, k5, hA5, rfl, rfl⟩, rfl⟩
  refine O_qs (q_assign rfl) ?_
  refine O_nil ?_
  refine W_reg rfl ?_
  refine O_qs (q_move rfl) ?_
  refine O_qs (q_add (w64 (by omega)) rfl rfl) ?_
  refine O_qs (q_assign rfl) ?_
  refine O_nil ?_
  refine L_unroll ?_
  refine W_seq ?_
  refine W_seq ?_
  refine W_reg rfl ?_
  refine O_qs (q_move rfl) ?_
  refine O_qs (q_lss rfl rfl) ?_
  refine O_qs (q_move rfl) ?_
  refine O_qs (QY.cond0 rfl rfl rfl (fun H => q_move rfl)) ?_
  refine O_qs (QY.cond0 rfl rfl rfl (fun H => q_eql (gvh rfl H) rfl)) ?_
  refine O_qs (q_and rfl rfl rfl) ?_
  refine O_nil ?_
  refine W_true rfl ?_
  refine W_skip ?_
  refine W_block ?_
  refine W_seq ?_
  refine W_reg rfl ?_
  refine O_qs (q_move rfl) ?_
  refine O_qs (q_move rfl) ?_
  refine O_qs (q_mkI mki_35 rfl) ?_
  refine O_es (e_cf Try.call44 rfl (fun wd hwd => (tower_end _ tb cb qb lb0 5 P2 g 2 [some lb0, some lb1] (lnB 0) (lnC 0) (cf18 2) 1 ⟨0, 0⟩ 0 0 true A5 wb _ _ hP2' rfl (by decide) (by decide) rfl (lnB_ok (by decide)) hA5 (lnB_step 0 0))) (by repeat (first | exact Pick.nil | exact Take.here | apply Pick.cons | apply Take.there))) ?_
  rintro _ _ ⟨_, ⟨A6, k6, hA6, rfl, rfl⟩, rfl⟩
  refine O_qs (q_assign rfl) ?_
  refine O_nil ?_
  refine W_reg rfl ?_
  refine O_qs (q_move rfl) ?_
  refine O_qs (q_add (w64 (by omega)) rfl rfl) ?_
  refine O_qs (q_assign rfl) ?_
  refine O_nil ?_
  refine L_unroll ?_
  refine W_seq ?_
  refine W_seq ?_
  refine W_reg rfl ?_
  refine O_qs (q_move rfl) ?_
  refine O_qs (q_lss rfl rfl) ?_
  refine O_qs (q_move rfl) ?_
  refine O_qs (QY.cond0 rfl rfl rfl (fun H => q_move rfl)) ?_
  refine O_qs (QY.cond0 rfl rfl rfl (fun H => q_eql (gvh rfl H) rfl)) ?_
  refine O_qs (q_and rfl rfl rfl) ?_
  refine O_nil ?_
  refine W_false rfl ?_
  refine W_exit ?_
  refine W_seq ?_
  refine W_reg rfl ?_
  refine O_qs (q_move rfl) ?_
  refine O_qs (q_eql rfl rfl) ?_
  refine O_qs (q_move rfl) ?_
  refine O_qs (QY.guard rfl rfl rfl (q_move rfl)) ?_
  refine O_qs (QY.guard rfl rfl rfl (q_eql rfl rfl)) ?_
  refine O_qs (q_pick_t rfl rfl) ?_
  refine O_qs (q_move rfl) ?_
  refine O_qs (QY.guard rfl rfl rfl (q_move rfl)) ?_
  refine O_qs (QY.guard rfl rfl rfl (q_cf Try.call83 rfl (fun wd hwd => (tower_Found _ tb cb lb0 5 0 P2 g 2 [some lb0, some lb1] (lnC 0) hP2' (by decide) rfl)) (by repeat (first | exact Pick.nil | exact Take.here | apply Pick.cons | apply Take.there)))) ?_
  refine O_qs (QY.guard rfl rfl rfl (q_not rfl)) ?_
  refine O_qs (q_pick_t rfl rfl) ?_
  refine O_qs (q_move rfl) ?_
  refine O_qs (QY.guard rfl rfl rfl (q_move rfl)) ?_
  refine O_qs (QY.guard rfl rfl rfl (q_cf Try.call84 rfl (fun wd hwd => (tower_At _ tb cb lb1 5 0 P2 g 2 [some lb0, some lb1] 1 (lnC 1) hP2' (by decide) rfl)) (by repeat (first | exact Pick.nil | exact Take.here | apply Pick.cons | apply Take.there)))) ?_
  refine O_qs (QY.guard rfl rfl rfl (q_field (fd_91_0 rfl) rfl)) ?_
  refine O_qs (QY.guard rfl rfl rfl (q_cf Try.call29 rfl (fun wd hwd => (place_Root _ 1)) (by repeat (first | exact Pick.nil | exact Take.here | apply Pick.cons | apply Take.there)))) ?_
  refine O_qs (QY.guard rfl rfl rfl (q_bin eql_79 rfl rfl)) ?_
  refine O_qs (q_pick_t rfl rfl) ?_
  refine O_qs (q_move rfl) ?_
  refine O_qs (QY.guard rfl rfl rfl (q_move rfl)) ?_
  refine O_qs (QY.guard rfl rfl rfl (q_cf Try.call84 rfl (fun wd hwd => (tower_At _ tb cb lb0 5 0 P2 g 2 [some lb0, some lb1] 0 (lnC 0) hP2' (by decide) rfl)) (by repeat (first | exact Pick.nil | exact Take.here | apply Pick.cons | apply Take.there)))) ?_
  refine O_qs (QY.guard rfl rfl rfl (q_field (fd_91_0 rfl) rfl)) ?_
  refine O_qs (QY.guard rfl rfl rfl (q_cf Try.call29 rfl (fun wd hwd => (place_Root _ 0)) (by repeat (first | exact Pick.nil | exact Take.here | apply Pick.cons | apply Take.there)))) ?_
  refine O_qs (QY.guard rfl rfl rfl (q_bin eql_79 rfl rfl)) ?_
  refine O_qs (q_pick_t rfl rfl) ?_
  refine O_qs (q_move rfl) ?_
  refine O_qs (QY.guard rfl rfl rfl (q_move rfl)) ?_
  refine O_qs (QY.guard rfl rfl rfl (q_cf Try.call84 rfl (fun wd hwd => (tower_At_out _ tb cb 5 0 P2 g 2 2 (by decide))) (by repeat (first | exact Pick.nil | exact Take.here | apply Pick.cons | apply Take.there)))) ?_
  refine O_qs (QY.guard rfl rfl rfl (q_build rfl (bld_91 (cs := [_, _, _, _]) rfl))) ?_
  refine O_qs (QY.guard rfl rfl rfl (q_bin eql_91 rfl rfl)) ?_
  refine O_qs (q_pick_t rfl rfl) ?_
  refine O_qs (q_move rfl) ?_
  refine O_qs (QY.guard rfl rfl rfl (q_build rfl (bld_23 (cs := [_, _, _, _, _]) rfl))) ?_
  refine O_es (EY.guard rfl rfl rfl (e_cf Try.call8 rfl (fun wd hwd => (core_New_ok _ (Conf.mk 1 1 0 1 2) (by decide))) (by repeat (first | exact Pick.nil | exact Take.here | apply Pick.cons | apply Take.there)))) ?_
  rintro _ _ ⟨_, ⟨cb2, qb2, Q2, qv2, ring2, qk2, qh2, hq2, rfl, rfl⟩, rfl⟩
  refine O_qs (QY.guard rfl rfl rfl (q_cf Try.call42 rfl (fun wd hwd => (tower_New_nil _ cb2 qb2 (Conf.mk 1 1 0 1 2) 0 ⟨0, 0⟩ 0 1 (by decide))) (by repeat (first | exact Pick.nil | exact Take.here | apply Pick.cons | apply Take.there)))) ?_
  refine O_qs (QY.guard rfl rfl rfl (q_eqnil Try.runUnderlying101 rfl rfl)) ?_
  refine O_qs (q_pick_t rfl rfl) ?_
  refine O_qs (q_assign rfl) ?_
  refine O_nil ?_
  refine W_ret ?_
  refine res1 (c0 := []) rfl rfl (by repeat (first | exact Pick.nil | exact Take.here | apply Pick.cons | apply Take.there)) rfl ?_
  exact ⟨rfl, rfl⟩

/-! ### A skip list laid -/
theorem Chain.cells {m : Mem} {lv : Int} : ∀ {L : List Nd} {p : Plc} {mk : Bool}, Chain m lv p mk L → ∀ x, x ∈ L → m (cellP x.slot 3) = x.key ∧ m (cellP x.slot 4) = x.val
  | y :: r, p, mk, h, x, hx => by
    obtain ⟨_, _, h3, h4, h5⟩ := h
    rcases List.mem_cons.1 hx with rfl | hx
    · exact ⟨h3, h4⟩
    · exact Chain.cells h5 x hx

theorem layGo_key {e lv : Int} (hlv : 0 ≤ lv) {s w : Int} : ∀ (L : List Nd) (at_ : Plc) (mk : Bool) (l : List (Plc × Int)), at_ ≠ cellP s 3 → (∀ y, y ∈ L → y.slot = s → y.key = w) → mem l (cellP s 3) = w → mem (layGo e lv at_ mk L l) (cellP s 3) = w
  | [], at_, mk, l, ha, _, h0 => by rw [layGo, mem_mput', if_neg (Ne.symm ha)]; exact h0
  | x :: r, at_, mk, l, ha, hy, h0 => by
    rw [layGo]
    refine layGo_key hlv r _ _ _ (by rw [Ne, cellP_inj]; omega) (fun y hy' => hy y (List.mem_cons_of_mem _ hy')) ?_
    rw [mem_mput', if_neg (by rw [cellP_inj]; omega), mem_mput']
    split
    · rename_i e1
      rw [cellP_inj] at e1
      exact hy x (by simp) e1.1.symm
    · rw [mem_mput', if_neg (Ne.symm ha)]; exact h0
theorem layGo_val {e lv : Int} (hlv : 0 ≤ lv) {s w : Int} : ∀ (L : List Nd) (at_ : Plc) (mk : Bool) (l : List (Plc × Int)), at_ ≠ cellP s 4 → (∀ y, y ∈ L → y.slot = s → y.val = w) → mem l (cellP s 4) = w → mem (layGo e lv at_ mk L l) (cellP s 4) = w
  | [], at_, mk, l, ha, _, h0 => by rw [layGo, mem_mput', if_neg (Ne.symm ha)]; exact h0
  | x :: r, at_, mk, l, ha, hy, h0 => by
    rw [layGo]
    refine layGo_val hlv r _ _ _ (by rw [Ne, cellP_inj]; omega) (fun y hy' => hy y (List.mem_cons_of_mem _ hy')) ?_
    rw [mem_mput']
    split
    · rename_i e1
      rw [cellP_inj] at e1
      exact hy x (by simp) e1.1.symm
    · rw [mem_mput', if_neg (by rw [cellP_inj]; omega), mem_mput', if_neg (Ne.symm ha)]; exact h0

theorem nd_inj {α β : Type} (f : α → β) : ∀ (S : List α), (S.map f).Nodup → ∀ a, a ∈ S → ∀ b, b ∈ S → f a = f b → a = b
  | x :: r, h, a, ha, b, hb, e => by
    simp only [List.map_cons, List.nodup_cons] at h
    rcases List.mem_cons.1 ha with ea | ha1
    · rcases List.mem_cons.1 hb with eb | hb1
      · rw [ea, eb]
      · exact absurd (List.mem_map.2 ⟨b, hb1, by rw [← e, ea]⟩) h.1
    · rcases List.mem_cons.1 hb with eb | hb1
      · exact absurd (List.mem_map.2 ⟨a, ha1, by rw [e, eb]⟩) h.1
      · exact nd_inj f r h.2 a ha1 b hb1 e
theorem lvl_slots {h : Nat} {S : List NdT} (g : GoodT h S) (k : Int) : slotsOk (lvl k S) := by
  refine ⟨?_, fun x hx => ?_⟩
  · unfold lvl
    rw [List.map_map]
    exact g.nd.sublist (List.Sublist.map _ List.filter_sublist)
  · simp only [lvl, List.mem_map, List.mem_filter] at hx
    obtain ⟨z, ⟨hz, _⟩, rfl⟩ := hx
    have := g.sl z hz
    dsimp only
    omega
theorem lvl_same {h : Nat} {S : List NdT} (g : GoodT h S) {j k : Int} : ∀ x, x ∈ lvl j S → ∀ y, y ∈ lvl k S → y.slot = x.slot → y.key = x.key ∧ y.val = x.val := by
  intro x hx y hy e
  simp only [lvl, List.mem_map, List.mem_filter] at hx hy
  obtain ⟨z, ⟨hz, _⟩, rfl⟩ := hx
  obtain ⟨w, ⟨hw, _⟩, rfl⟩ := hy
  have : w = z := nd_inj (·.slot) S g.nd w hw z hz e
  subst this
  exact ⟨rfl, rfl⟩
theorem lvl_wd {h : Nat} {S : List NdT} (g : GoodT h S) (k : Int) : ∀ x, x ∈ lvl k S → NdW x := by
  intro x hx
  simp only [lvl, List.mem_map, List.mem_filter] at hx
  obtain ⟨z, ⟨hz, _⟩, rfl⟩ := hx
  exact ⟨g.wd z hz, (by decide : Wd 0)⟩

theorem lay_keeps {h : Nat} {S : List NdT} (g : GoodT h S) {j k : Nat} (hjk : j ≠ k) {l : List (Plc × Int)} (hc : Chain (mem l) j (rootP j) false (lvl j S)) :
    Chain (mem (lay k k 5 (lvl k S) l)) j (rootP j) false (lvl j S) := by
  have hm0 : ∀ q, q ≠ epochP → mem (mput l epochP 5) q = mem l q := fun q hq => by rw [mem_mput', if_neg hq]
  unfold lay
  refine hc.frame ?_ fun x hx => ⟨?_, ?_, ?_⟩
  · rw [layGo_frame 5 (k : Int) _ _ _ _ _ (by simp [rootP]; omega) (fun x _ => by simp [rootP, cellP])]
    exact hm0 _ (by simp [rootP, epochP])
  · have := (hc.cells x hx).1
    rw [this]
    exact layGo_key (by omega) _ _ _ _ (by simp [rootP, cellP]) (fun y hy e => (lvl_same g x hx y hy e).1) (by rw [hm0 _ (by simp [cellP, epochP])]; exact this)
  · have := (hc.cells x hx).2
    rw [this]
    exact layGo_val (by omega) _ _ _ _ (by simp [rootP, cellP]) (fun y hy e => (lvl_same g x hx y hy e).2) (by rw [hm0 _ (by simp [cellP, epochP])]; exact this)
  · rw [layGo_frame 5 (k : Int) _ _ _ _ _ (by simp [rootP, cellP]) (fun y _ => by simp only [Ne, cellP_inj]; omega)]
    exact hm0 _ (by simp [cellP, epochP])
end Go.Proofs.Ytaphhhnnplljdaa
