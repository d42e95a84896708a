/-
  Walks: a lane's step.
-/
import Derived.Test.YtbfplncdmbjjhaaGreatSk1
set_option linter.unusedSimpArgs false
set_option linter.unusedVariables false
namespace Go.Proofs.YtbfplncdmbjjhaaGreat
open Go Go.SL

abbrev Wd (w : Int) : Prop := 0 ≤ w ∧ w < 18446744073709551616
abbrev laneA (lb cb : Nat) (x : Lane) : Atom :=
  [(lb, .cells #[ptr cb, .int .i64 x.at_.place.kind, .int .i64 x.at_.place.slot, .int .i64 x.at_.place.part, .int .i64 x.at_.id, .int .i64 x.level, .int .u64 x.key, .bool x.vals, .int .i64 x.pc,
    .int .u64 x.into.word, .int .i64 x.into.id, .bool x.into.stale, .int .u64 x.out.word, .int .i64 x.out.id, .bool x.out.stale, .int .u64 x.k.word, .int .i64 x.k.id, .bool x.k.stale, .int .u64 x.v.word, .int .i64 x.v.id, .bool x.v.stale,
    .int .i64 x.who.slot, .int .i64 x.who.id, .bool x.found] 127 (0, 0))]

structure LaneOk (x : Lane) : Prop where
  lv : 0 ≤ x.level ∧ x.level ≤ 1000000
  into : Wd x.into.word
  out : Wd x.out.word

theorem seek_New (B : World) (cb : Nat) (a : At) (lv key : Int) (vals : Bool) :
    Ctr Tryz.prog 14 [ptr cb, a.v, .int .i64 lv, .int .u64 key, .bool vals] B [] (fun u c => ∃ lb, u = ptr lb ∧ c = [laneA lb cb (newLane a lv key vals)]) := by
  refine Ctr.intro (n := 20) Tryz.func14 rfl Tryz.ntmps14 (Nat.le_of_ble_eq_true rfl) ?_
  refine W_seq ?_
  refine W_reg rfl ?_
  refine O_es (e_box (cs := #[_, _, _, _]) rfl rfl) ?_
  rintro _ _ ⟨b6, rfl, rfl⟩
  refine O_qs (q_assign rfl) ?_
  refine O_nil ?_
  refine W_seq ?_
  refine W_seq ?_
  refine W_reg rfl ?_
  refine O_qs (q_move rfl) ?_
  refine O_qs (q_eqnil Tryz.runUnderlying35 rfl rfl) ?_
  refine O_nil ?_
  refine W_false rfl ?_
  refine W_skip ?_
  refine W_seq ?_
  refine W_reg rfl ?_
  refine O_qs (q_move rfl) ?_
  refine O_qs (q_loadN (vs := [_, _, _, _]) Tryz.isAgg54 Tryz.sizeOf54 rfl (rd_range (by repeat (first | exact List.Mem.head _ | apply List.Mem.tail)) rfl)) ?_
  refine O_qs (q_move rfl) ?_
  refine O_qs (q_move rfl) ?_
  refine O_qs (q_move rfl) ?_
  refine O_qs (q_build rfl (bld_127 (cs := [_, _, _, _, _, _, _, _, _, _, _, _, _, _, _, _, _, _, _, _, _, _, _, _]) rfl)) ?_
  refine O_es (e_box (cs := #[_, _, _, _, _, _, _, _, _, _, _, _, _, _, _, _, _, _, _, _, _, _, _, _]) rfl rfl) ?_
  rintro _ _ ⟨b19, rfl, rfl⟩
  refine O_qs (q_assign rfl) ?_
  refine O_nil ?_
  refine W_ret ?_
  refine res1 (c0 := [laneA b19 cb (newLane a lv key vals)]) rfl rfl (by repeat (first | exact Pick.nil | exact Take.here | apply Pick.cons | apply Take.there)) rfl ?_
  exact ⟨b19, rfl, rfl⟩

theorem lane_cell (B : World) (lb cb : Nat) (x : Lane) (n : Int) :
    Ctr Tryz.prog 65 [ptr lb, .int .i64 n] B [laneA lb cb x] (fun u c => u = (At.mk (cellP x.who.slot n) x.who.id).v ∧ c = [laneA lb cb x]) := by
  refine Ctr.intro (n := 18) Tryz.func65 rfl Tryz.ntmps65 (Nat.le_of_ble_eq_true rfl) ?_
  refine W_seq ?_
  refine W_reg rfl ?_
  refine O_es (e_alloc (cs := #[.int .i64 0, .int .i64 0, .int .i64 0, .int .i64 0]) Tryz.zeroValue54 rfl) ?_
  rintro _ _ ⟨b4, rfl, rfl⟩
  refine O_nil ?_
  refine W_seq ?_
  refine W_draw [[], [0], [0, 1], [0, 1, 2], [0, 1, 2, 3], [], [0, 1, 2, 3, 4, 5], [], [7], [7, 8], [7, 8, 9], [7, 8, 9, 10], [0, 1, 2, 3, 4, 5, 6, 7, 8, 9, 10, 11], [0, 1, 2, 3, 4, 5, 6, 7, 8, 9, 10, 11, 12]] rfl rfl rfl ?_
  refine V.qs 0 rfl rfl (q_move rfl) ?_
  refine V.qs 1 rfl rfl (q_nil rfl) ?_
  refine V.qs 2 rfl rfl (q_fa fa_127_10 rfl) ?_
  refine V.qs 3 rfl rfl (q_fa fa_65_0 rfl) ?_
  refine V.qs 4 rfl rfl (q_load Tryz.isAgg3 rfl (rd_chunk (by repeat (first | exact List.Mem.head _ | apply List.Mem.tail)) rfl)) ?_
  refine V.qs 5 rfl rfl (q_move rfl) ?_
  refine V.qs 7 rfl rfl (q_move rfl) ?_
  refine V.qs 8 rfl rfl (q_nil rfl) ?_
  refine V.qs 9 rfl rfl (q_fa fa_127_10 rfl) ?_
  refine V.qs 10 rfl rfl (q_fa fa_65_1 rfl) ?_
  refine V.qs 11 rfl rfl (q_load Tryz.isAgg3 rfl (rd_chunk (by repeat (first | exact List.Mem.head _ | apply List.Mem.tail)) rfl)) ?_
  refine V.qs 6 rfl rfl (q_cf Tryz.call86 rfl (fun wd hwd => (place_Of _ x.who.slot n)) (by repeat (first | exact Pick.nil | exact Take.here | apply Pick.cons | apply Take.there))) ?_
  refine V.qs 12 rfl rfl (q_build rfl (bld_54 (cs := [_, _, _, _]) rfl)) ?_
  refine V.e1n 13 [] rfl rfl rfl (e_storeN (vs := [_, _, _, _]) Tryz.sizeOf54 rfl rfl rfl (by repeat (first | exact Upd.here | apply Upd.there)) rfl (by simp only [setAll, List.setIfInBounds_toArray, List.set_cons_succ, List.set_cons_zero, Nat.reduceAdd, Nat.zero_add] <;> rfl)) ?_
  rintro _ _ ⟨rfl, rfl⟩
  refine ⟨st_nil, ?_⟩
  refine V.fin rfl ?_
  refine W_ret ?_
  refine resL (c0 := [laneA lb cb x]) rfl (.cell (us := [_, _, _, _]) Tryz.isAgg54 Tryz.sizeOf54 rfl (rd_range (by repeat (first | exact List.Mem.head _ | apply List.Mem.tail)) rfl) .nil) (by repeat (first | exact Pick.nil | exact Take.here | apply Pick.cons | apply Take.there)) rfl ?_
  exact ⟨rfl, rfl⟩

theorem lane_next (B : World) (lb cb : Nat) (x : Lane) (hx : LaneOk x) :
    Ctr Tryz.prog 64 [ptr lb] B [laneA lb cb x] (fun u c => u = x.next.v ∧ c = [laneA lb cb x]) := by
  have h1 := hx.lv
  refine Ctr.intro (n := 10) Tryz.func64 rfl Tryz.ntmps64 (Nat.le_of_ble_eq_true rfl) ?_
  refine W_seq ?_
  refine W_reg rfl ?_
  refine O_es (e_alloc (cs := #[.int .i64 0, .int .i64 0, .int .i64 0, .int .i64 0]) Tryz.zeroValue54 rfl) ?_
  rintro _ _ ⟨b2, rfl, rfl⟩
  refine O_nil ?_
  refine W_seq ?_
  refine W_reg rfl ?_
  refine O_qs (q_move rfl) ?_
  refine O_qs (q_move rfl) ?_
  refine O_qs (q_nil rfl) ?_
  refine O_qs (q_fa fa_127_2 rfl) ?_
  refine O_qs (q_load Tryz.isAgg3 rfl (rd_chunk (by repeat (first | exact List.Mem.head _ | apply List.Mem.tail)) rfl)) ?_
  refine O_qs (q_add (w64 (by omega)) rfl rfl) ?_
  refine O_qs (q_cf Tryz.call65 rfl (fun wd hwd => (lane_cell _ lb cb x (7 + x.level))) (by repeat (first | exact Pick.nil | exact Take.here | apply Pick.cons | apply Take.there))) ?_
  refine O_en (e_storeN (vs := [_, _, _, _]) Tryz.sizeOf54 rfl rfl rfl (by repeat (first | exact Upd.here | apply Upd.there)) rfl (by simp only [setAll, List.setIfInBounds_toArray, List.set_cons_succ, List.set_cons_zero, Nat.reduceAdd, Nat.zero_add] <;> rfl)) ?_
  rintro _ _ ⟨rfl, rfl⟩
  refine O_nil ?_
  refine W_ret ?_
  refine resL (c0 := [laneA lb cb x]) rfl (.cell (us := [_, _, _, _]) Tryz.isAgg54 Tryz.sizeOf54 rfl (rd_range (by repeat (first | exact List.Mem.head _ | apply List.Mem.tail)) rfl) .nil) (by repeat (first | exact Pick.nil | exact Take.here | apply Pick.cons | apply Take.there)) rfl ?_
  exact ⟨rfl, rfl⟩

theorem lane_load (B : World) (lb cb : Nat) (x : Lane) (A : Atom) (wb : Nat) (k : Count) (l : List (Plc × Int)) (a : At) (hA : PlainIs A wb l k) (hpc : 0 ≤ x.pc ∧ x.pc ≤ 100) :
    Ctr Tryz.prog 63 [ptr lb, wI wb, a.v] B [laneA lb cb x, A] (fun u c => ∃ A', PlainIs A' wb l { k with loads := inc k.loads } ∧ u = (Val.mk (mem l a.place) 0 false).v ∧ c = [laneA lb cb { x with pc := x.pc + 1 }, A']) := by
  refine Ctr.intro (n := 17) Tryz.func63 rfl Tryz.ntmps63 (Nat.le_of_ble_eq_true rfl) ?_
  refine W_seq ?_
  refine W_reg rfl ?_
  refine O_es (e_box (cs := #[_, _, _, _]) rfl rfl) ?_
  rintro _ _ ⟨b5, rfl, rfl⟩
  refine O_es (e_alloc (cs := #[.int .u64 0, .int .i64 0, .bool false]) Tryz.zeroValue69 rfl) ?_
  rintro _ _ ⟨b6, rfl, rfl⟩
  refine O_nil ?_
  refine W_seq ?_
  refine W_reg rfl ?_
  refine O_qs (q_move rfl) ?_
  refine O_qs (q_nil rfl) ?_
  refine O_qs (q_fa fa_127_5 rfl) ?_
  refine O_qs (q_load Tryz.isAgg3 rfl (rd_chunk (by repeat (first | exact List.Mem.head _ | apply List.Mem.tail)) rfl)) ?_
  refine O_qs (q_add (w64 (by omega)) rfl rfl) ?_
  refine O_qs (q_nil rfl) ?_
  refine O_qs (q_fa fa_127_5 rfl) ?_
  refine O_en (e_store Tryz.sizeOf3 rfl rfl rfl (by repeat (first | exact Upd.here | apply Upd.there)) rfl (by simp only [setAll, List.setIfInBounds_toArray, List.set_cons_succ, List.set_cons_zero, Nat.reduceAdd, Nat.zero_add] <;> rfl)) ?_
  rintro _ _ ⟨rfl, rfl⟩
  refine O_nil ?_
  refine W_seq ?_
  refine W_reg rfl ?_
  refine O_qs (q_move rfl) ?_
  refine O_qs (q_loadN (vs := [_, _, _, _]) Tryz.isAgg54 Tryz.sizeOf54 rfl (rd_range (by repeat (first | exact List.Mem.head _ | apply List.Mem.tail)) rfl)) ?_
  refine O_es (e_inv (f := 172) (by intro args w; kernel_rfl) rfl rfl (fun wd hwd => (world_Load _ A wb k l a hA)) (by repeat (first | exact Pick.nil | exact Take.here | apply Pick.cons | apply Take.there))) ?_
  rintro _ _ ⟨_, ⟨A', hA', rfl, rfl⟩, rfl⟩
  refine O_en (e_storeN (vs := [_, _, _]) Tryz.sizeOf69 rfl rfl rfl (by repeat (first | exact Upd.here | apply Upd.there)) rfl (by simp only [setAll, List.setIfInBounds_toArray, List.set_cons_succ, List.set_cons_zero, Nat.reduceAdd, Nat.zero_add] <;> rfl)) ?_
  rintro _ _ ⟨rfl, rfl⟩
  refine O_nil ?_
  refine W_ret ?_
  refine resL (c0 := [laneA lb cb { x with pc := x.pc + 1 }, A']) rfl (.cell (us := [_, _, _]) Tryz.isAgg69 Tryz.sizeOf69 rfl (rd_range (by repeat (first | exact List.Mem.head _ | apply List.Mem.tail)) rfl) .nil) (by repeat (first | exact Pick.nil | exact Take.here | apply Pick.cons | apply Take.there)) rfl ?_
  exact ⟨A', hA', rfl, rfl⟩

theorem lane_come (B : World) (lb cb : Nat) (x : Lane) (w : Val) (hw : Wd w.word) :
    Ctr Tryz.prog 98 [ptr lb, w.v] B [laneA lb cb x] (fun u c => u = .int .i64 (comeSt w) ∧ c = [laneA lb cb (x.come w)]) := by
  refine Ctr.intro (n := 31) Tryz.func98 rfl Tryz.ntmps98 (Nat.le_of_ble_eq_true rfl) ?_
  refine W_seq ?_
  refine W_reg rfl ?_
  refine O_es (e_box (cs := #[_, _, _]) rfl rfl) ?_
  rintro _ _ ⟨b3, rfl, rfl⟩
  refine O_qs (q_assign rfl) ?_
  refine O_nil ?_
  refine W_seq ?_
  refine W_draw [[], [], [], [], [], [], [], [6], [0, 4, 6, 7], [0, 4, 6, 7, 8], [0, 4, 6, 7, 8, 9], [0, 1, 4, 5, 6, 7, 8, 9, 10], [0, 1, 4, 5, 6, 7, 8, 9, 10, 11], [0, 1, 4, 5, 6, 7, 8, 9, 10, 11, 12], [0, 1, 2, 4, 5, 6, 7, 8, 9, 10, 11, 12, 13], [0, 1, 2, 4, 5, 6, 7, 8, 9, 10, 11, 12, 13, 14], [0, 1, 2, 4, 5, 6, 7, 8, 9, 10, 11, 12, 13, 14, 15], [0, 1, 2, 3, 4, 5, 6, 7, 8, 9, 10, 11, 12, 13, 14, 15, 16], [0, 1, 2, 3, 4, 5, 6, 7, 8, 9, 10, 11, 12, 13, 14, 15, 16, 17], [0, 1, 2, 3, 4, 5, 6, 7, 8, 9, 10, 11, 12, 13, 14, 15, 16, 17, 18]] rfl rfl rfl ?_
  refine V.qs 0 rfl rfl (q_move rfl) ?_
  refine V.qs 1 rfl rfl (q_move rfl) ?_
  refine V.qs 2 rfl rfl (q_move rfl) ?_
  refine V.qs 3 rfl rfl (q_move rfl) ?_
  refine V.qs 4 rfl rfl (q_loadN (vs := [_, _, _]) Tryz.isAgg69 Tryz.sizeOf69 rfl (rd_range (by repeat (first | exact List.Mem.head _ | apply List.Mem.tail)) rfl)) ?_
  refine V.qs 5 rfl rfl (q_build rfl (bld_69 (cs := [_, _, _]) rfl)) ?_
  refine V.qs 6 rfl rfl (q_loadN (vs := [_, _, _]) Tryz.isAgg69 Tryz.sizeOf69 rfl (rd_range (by repeat (first | exact List.Mem.head _ | apply List.Mem.tail)) rfl)) ?_
  refine V.qs 7 rfl rfl (q_cf Tryz.call97 rfl (fun wd hwd => (core_Lead _ w hw)) (by repeat (first | exact Pick.nil | exact Take.here | apply Pick.cons | apply Take.there))) ?_
  refine V.qs 8 rfl rfl (q_nil rfl) ?_
  refine V.qs 9 rfl rfl (q_fa fa_127_6 rfl) ?_
  refine V.e1n 10 [5, 3, 2, 1] rfl rfl rfl (e_storeN (vs := [_, _, _]) Tryz.sizeOf69 rfl rfl rfl (by repeat (first | exact Upd.here | apply Upd.there)) rfl (by simp only [setAll, List.setIfInBounds_toArray, List.set_cons_succ, List.set_cons_zero, Nat.reduceAdd, Nat.zero_add] <;> rfl)) ?_
  rintro _ _ ⟨rfl, rfl⟩
  refine ⟨st rfl rfl (q_build rfl (bld_69 (cs := [_, _, _]) rfl)) (st rfl rfl (q_move rfl) (st rfl rfl (q_move rfl) (st rfl rfl (q_move rfl) (st_nil)))), ?_⟩
  refine V.qs 11 rfl rfl (q_nil rfl) ?_
  refine V.qs 12 rfl rfl (q_fa fa_127_7 rfl) ?_
  refine V.e1n 13 [3, 2] rfl rfl rfl (e_storeN (vs := [_, _, _]) Tryz.sizeOf69 rfl rfl rfl (by repeat (first | exact Upd.here | apply Upd.there)) rfl (by simp only [setAll, List.setIfInBounds_toArray, List.set_cons_succ, List.set_cons_zero, Nat.reduceAdd, Nat.zero_add] <;> rfl)) ?_
  rintro _ _ ⟨rfl, rfl⟩
  refine ⟨st rfl rfl (q_move rfl) (st rfl rfl (q_move rfl) (st_nil)), ?_⟩
  refine V.qs 14 rfl rfl (q_nil rfl) ?_
  refine V.qs 15 rfl rfl (q_fa fa_127_10 rfl) ?_
  refine V.e1n 16 [3] rfl rfl rfl (e_storeN (vs := [_, _]) Tryz.sizeOf65 rfl rfl rfl (by repeat (first | exact Upd.here | apply Upd.there)) rfl (by simp only [setAll, List.setIfInBounds_toArray, List.set_cons_succ, List.set_cons_zero, Nat.reduceAdd, Nat.zero_add] <;> rfl)) ?_
  rintro _ _ ⟨rfl, rfl⟩
  refine ⟨st rfl rfl (q_move rfl) (st_nil), ?_⟩
  refine V.qs 17 rfl rfl (q_nil rfl) ?_
  refine V.qs 18 rfl rfl (q_fa fa_127_5 rfl) ?_
  refine V.e1n 19 [] rfl rfl rfl (e_store Tryz.sizeOf3 rfl rfl rfl (by repeat (first | exact Upd.here | apply Upd.there)) rfl (by simp only [setAll, List.setIfInBounds_toArray, List.set_cons_succ, List.set_cons_zero, Nat.reduceAdd, Nat.zero_add] <;> rfl)) ?_
  rintro _ _ ⟨rfl, rfl⟩
  refine ⟨st_nil, ?_⟩
  refine V.fin rfl ?_
  refine W_seq ?_
  refine W_seq ?_
  refine W_reg rfl ?_
  refine O_qs (q_move rfl) ?_
  refine O_qs (q_nil rfl) ?_
  refine O_qs (q_fa fa_127_10 rfl) ?_
  refine O_qs (q_fa fa_65_0 rfl) ?_
  refine O_qs (q_load Tryz.isAgg3 rfl (rd_chunk (by repeat (first | exact List.Mem.head _ | apply List.Mem.tail)) rfl)) ?_
  refine O_qs (q_eql rfl rfl) ?_
  refine O_nil ?_
  refine W_cond rfl ?_ ?_
  · intro hc
    have h0 : wslot w.word = 0 := of_decide_eq_true hc
    refine W_seq ?_
    refine W_reg rfl ?_
    refine O_qs (q_move rfl) ?_
    refine O_qs (q_build rfl (bld_65 (cs := [_, _]) rfl)) ?_
    refine O_qs (q_nil rfl) ?_
    refine O_qs (q_fa fa_127_10 rfl) ?_
    refine O_en (e_storeN (vs := [_, _]) Tryz.sizeOf65 rfl rfl rfl (by repeat (first | exact Upd.here | apply Upd.there)) rfl (by simp only [setAll, List.setIfInBounds_toArray, List.set_cons_succ, List.set_cons_zero, Nat.reduceAdd, Nat.zero_add] <;> rfl)) ?_
    rintro _ _ ⟨rfl, rfl⟩
    refine O_nil ?_
    refine W_seq ?_
    refine W_reg rfl ?_
    refine O_qs (q_assign rfl) ?_
    refine O_nil ?_
    refine W_ret ?_
    refine res1 (c0 := [laneA lb cb { x with into := w, out := Val.zero, pc := 2, who := ⟨0, 0⟩ }]) rfl rfl (by repeat (first | exact Pick.nil | exact Take.here | apply Pick.cons | apply Take.there)) rfl ?_
    simp only [Lane.come, comeSt, h0, if_true]
    exact ⟨trivial, trivial⟩
  · intro hc
    have h0 : ¬ wslot w.word = 0 := of_decide_eq_false hc
    refine W_skip ?_
    refine W_seq ?_
    refine W_reg rfl ?_
    refine O_qs (q_assign rfl) ?_
    refine O_nil ?_
    refine W_ret ?_
    refine res1 (c0 := [laneA lb cb { x with into := w, out := Val.zero, pc := 2, who := ⟨wslot w.word, w.id⟩ }]) rfl rfl (by repeat (first | exact Pick.nil | exact Take.here | apply Pick.cons | apply Take.there)) rfl ?_
    simp only [Lane.come, comeSt, h0, if_false]
    exact ⟨trivial, trivial⟩

theorem lane_compare (B : World) (lb cb : Nat) (x : Lane) (hx : LaneOk x) :
    Ctr Tryz.prog 100 [ptr lb] B [laneA lb cb x] (fun u c => u = .int .i64 x.compare.1 ∧ c = [laneA lb cb x.compare.2]) := by
  refine Ctr.intro (n := 50) Tryz.func100 rfl Tryz.ntmps100 (Nat.le_of_ble_eq_true rfl) ?_
  refine W_seq ?_
  refine W_reg rfl ?_
  refine O_qs (q_assign rfl) ?_
  refine O_nil ?_
  refine W_seq ?_
  refine W_seq ?_
  refine W_draw [[], [0], [0, 1], [0, 1, 2], [0, 1, 2, 3], [], [5], [5, 6], [5, 6, 7], [0, 1, 2, 3, 4, 5, 6, 7, 8]] rfl rfl rfl ?_
  refine V.qs 0 rfl rfl (q_move rfl) ?_
  refine V.qs 1 rfl rfl (q_nil rfl) ?_
  refine V.qs 2 rfl rfl (q_fa fa_127_8 rfl) ?_
  refine V.qs 3 rfl rfl (q_fa fa_69_0 rfl) ?_
  refine V.qs 4 rfl rfl (q_load Tryz.isAgg23 rfl (rd_chunk (by repeat (first | exact List.Mem.head _ | apply List.Mem.tail)) rfl)) ?_
  refine V.qs 5 rfl rfl (q_move rfl) ?_
  refine V.qs 6 rfl rfl (q_nil rfl) ?_
  refine V.qs 7 rfl rfl (q_fa fa_127_3 rfl) ?_
  refine V.qs 8 rfl rfl (q_load Tryz.isAgg23 rfl (rd_chunk (by repeat (first | exact List.Mem.head _ | apply List.Mem.tail)) rfl)) ?_
  refine V.qs 9 rfl rfl (q_lss rfl rfl) ?_
  refine V.fin rfl ?_
  refine W_cond rfl ?_ ?_
  · intro hc
    have h0 : x.k.word < x.key := by simpa using hc
    have hr : x.compare = (comeSt x.out, Lane.come { x with at_ := x.next } x.out) := by unfold Lane.compare; rw [if_pos h0]
    refine W_seq ?_
    refine W_reg rfl ?_
    refine O_qs (q_move rfl) ?_
    refine O_qs (q_move rfl) ?_
    refine O_qs (q_cf Tryz.call64 rfl (fun wd hwd => (lane_next _ lb cb x hx)) (by repeat (first | exact Pick.nil | exact Take.here | apply Pick.cons | apply Take.there))) ?_
    refine O_qs (q_nil rfl) ?_
    refine O_qs (q_fa fa_127_1 rfl) ?_
    refine O_en (e_storeN (vs := [_, _, _, _]) Tryz.sizeOf54 rfl rfl rfl (by repeat (first | exact Upd.here | apply Upd.there)) rfl (by simp only [setAll, List.setIfInBounds_toArray, List.set_cons_succ, List.set_cons_zero, Nat.reduceAdd, Nat.zero_add] <;> rfl)) ?_
    rintro _ _ ⟨rfl, rfl⟩
    refine O_nil ?_
    refine W_seq ?_
    refine W_reg rfl ?_
    refine O_qs (q_move rfl) ?_
    refine O_qs (q_move rfl) ?_
    refine O_qs (q_nil rfl) ?_
    refine O_qs (q_fa fa_127_7 rfl) ?_
    refine O_qs (q_loadN (vs := [_, _, _]) Tryz.isAgg69 Tryz.sizeOf69 rfl (rd_range (by repeat (first | exact List.Mem.head _ | apply List.Mem.tail)) rfl)) ?_
    refine O_es (e_cf Tryz.call98 rfl (fun wd hwd => (lane_come _ lb cb { x with at_ := x.next } x.out hx.out)) (by repeat (first | exact Pick.nil | exact Take.here | apply Pick.cons | apply Take.there))) ?_
    rintro _ _ ⟨_, ⟨rfl, rfl⟩, rfl⟩
    refine O_qs (q_assign rfl) ?_
    refine O_nil ?_
    refine W_ret ?_
    refine res1 (c0 := [laneA lb cb (Lane.come { x with at_ := x.next } x.out)]) rfl rfl (by repeat (first | exact Pick.nil | exact Take.here | apply Pick.cons | apply Take.there)) rfl ?_
    rw [hr]
    exact ⟨rfl, rfl⟩
  · intro hc
    have h0 : ¬ x.k.word < x.key := by simpa using hc
    refine W_skip ?_
    refine W_seq ?_
    refine W_draw [[], [], [1], [1, 2], [1, 2, 3], [1, 2, 3, 4], [], [6], [6, 7], [6, 7, 8], [1, 2, 3, 4, 5, 6, 7, 8, 9], [0, 1, 2, 3, 4, 5, 6, 7, 8, 9, 10], [0, 1, 2, 3, 4, 5, 6, 7, 8, 9, 10, 11], [0, 1, 2, 3, 4, 5, 6, 7, 8, 9, 10, 11, 12]] rfl rfl rfl ?_
    refine V.qs 0 rfl rfl (q_move rfl) ?_
    refine V.qs 1 rfl rfl (q_move rfl) ?_
    refine V.qs 2 rfl rfl (q_nil rfl) ?_
    refine V.qs 3 rfl rfl (q_fa fa_127_8 rfl) ?_
    refine V.qs 4 rfl rfl (q_fa fa_69_0 rfl) ?_
    refine V.qs 5 rfl rfl (q_load Tryz.isAgg23 rfl (rd_chunk (by repeat (first | exact List.Mem.head _ | apply List.Mem.tail)) rfl)) ?_
    refine V.qs 6 rfl rfl (q_move rfl) ?_
    refine V.qs 7 rfl rfl (q_nil rfl) ?_
    refine V.qs 8 rfl rfl (q_fa fa_127_3 rfl) ?_
    refine V.qs 9 rfl rfl (q_load Tryz.isAgg23 rfl (rd_chunk (by repeat (first | exact List.Mem.head _ | apply List.Mem.tail)) rfl)) ?_
    refine V.qs 10 rfl rfl (q_eql rfl rfl) ?_
    refine V.qs 11 rfl rfl (q_nil rfl) ?_
    refine V.qs 12 rfl rfl (q_fa fa_127_11 rfl) ?_
    refine V.e1n 13 [] rfl rfl rfl (e_store Tryz.sizeOf4 rfl rfl rfl (by repeat (first | exact Upd.here | apply Upd.there)) rfl (by simp only [setAll, List.setIfInBounds_toArray, List.set_cons_succ, List.set_cons_zero, Nat.reduceAdd, Nat.zero_add] <;> rfl)) ?_
    rintro _ _ ⟨rfl, rfl⟩
    refine ⟨st_nil, ?_⟩
    refine V.fin rfl ?_
    refine W_seq ?_
    refine W_seq ?_
    refine W_reg rfl ?_
    refine O_qs (q_move rfl) ?_
    refine O_qs (q_nil rfl) ?_
    refine O_qs (q_fa fa_127_11 rfl) ?_
    refine O_qs (q_load Tryz.isAgg4 rfl (rd_chunk (by repeat (first | exact List.Mem.head _ | apply List.Mem.tail)) rfl)) ?_
    refine O_qs (q_move rfl) ?_
    refine O_qs (QY.cond0 rfl rfl rfl (fun H => q_move rfl)) ?_
    refine O_qs (QY.cond0 rfl rfl rfl (fun H => q_nil (gvh rfl H))) ?_
    refine O_qs (QY.cond0 rfl rfl rfl (fun H => q_fa fa_127_4 (gvh rfl H))) ?_
    refine O_qs (QY.cond0 rfl rfl rfl (fun H => q_load Tryz.isAgg4 (gvh rfl H) (rd_chunk (by repeat (first | exact List.Mem.head _ | apply List.Mem.tail)) rfl))) ?_
    refine O_qs (q_and rfl rfl rfl) ?_
    refine O_nil ?_
    refine W_cond rfl ?_ ?_
    · intro hd
      have h1 : x.k.word = x.key ∧ x.vals = true := by
        revert hd
        cases x.vals <;> simp
      have hr : x.compare = (0, { x with found := decide (x.k.word = x.key), pc := 7 }) := by unfold Lane.compare; rw [if_neg h0, if_pos h1, decide_eq_true h1.1]
      refine W_seq ?_
      refine W_reg rfl ?_
      refine O_qs (q_move rfl) ?_
      refine O_qs (q_nil rfl) ?_
      refine O_qs (q_fa fa_127_5 rfl) ?_
      refine O_en (e_store Tryz.sizeOf3 rfl rfl rfl (by repeat (first | exact Upd.here | apply Upd.there)) rfl (by simp only [setAll, List.setIfInBounds_toArray, List.set_cons_succ, List.set_cons_zero, Nat.reduceAdd, Nat.zero_add] <;> rfl)) ?_
      rintro _ _ ⟨rfl, rfl⟩
      refine O_nil ?_
      refine W_seq ?_
      refine W_reg rfl ?_
      refine O_qs (q_assign rfl) ?_
      refine O_nil ?_
      refine W_ret ?_
      refine res1 (c0 := [laneA lb cb { x with found := decide (x.k.word = x.key), pc := 7 }]) rfl rfl (by repeat (first | exact Pick.nil | exact Take.here | apply Pick.cons | apply Take.there)) rfl ?_
      rw [hr]
      exact ⟨rfl, rfl⟩
    · intro hd
      have h1 : ¬ (x.k.word = x.key ∧ x.vals = true) := by
        revert hd
        cases x.vals <;> simp
      have hr : x.compare = (1, { x with found := decide (x.k.word = x.key) }) := by unfold Lane.compare; rw [if_neg h0, if_neg h1]
      refine W_skip ?_
      refine W_seq ?_
      refine W_reg rfl ?_
      refine O_qs (q_assign rfl) ?_
      refine O_nil ?_
      refine W_ret ?_
      refine res1 (c0 := [laneA lb cb { x with found := decide (x.k.word = x.key) }]) rfl rfl (by repeat (first | exact Pick.nil | exact Take.here | apply Pick.cons | apply Take.there)) rfl ?_
      rw [hr]
      exact ⟨rfl, rfl⟩

theorem lane_hold (B : World) (lb cb : Nat) (x : Lane) (hx : LaneOk x) :
    Ctr Tryz.prog 68 [ptr lb] B [laneA lb cb x] (fun u c => u = .int .i64 x.hold.1 ∧ c = [laneA lb cb x.hold.2]) := by
  refine Ctr.intro (n := 39) Tryz.func68 rfl Tryz.ntmps68 (Nat.le_of_ble_eq_true rfl) ?_
  refine W_seq ?_
  refine W_reg rfl ?_
  refine O_qs (q_assign rfl) ?_
  refine O_nil ?_
  refine W_seq ?_
  refine W_seq ?_
  refine W_reg rfl ?_
  refine O_qs (q_move rfl) ?_
  refine O_qs (q_nil rfl) ?_
  refine O_qs (q_fa fa_127_5 rfl) ?_
  refine O_qs (q_load Tryz.isAgg3 rfl (rd_chunk (by repeat (first | exact List.Mem.head _ | apply List.Mem.tail)) rfl)) ?_
  refine O_nil ?_
  refine W_block ?_
  refine W_seq ?_
  refine W_reg rfl ?_
  refine O_qs (q_eql rfl rfl) ?_
  refine O_qs (q_assign rfl) ?_
  refine O_nil ?_
  refine W_cond rfl ?_ ?_
  · intro hc
    have h0 : x.pc = 1 := by simpa using hc
    refine W_seq ?_
    refine W_seq ?_
    refine W_reg rfl ?_
    refine O_qs (q_move rfl) ?_
    refine O_qs (q_nil rfl) ?_
    refine O_qs (q_fa fa_127_6 rfl) ?_
    refine O_qs (q_fa fa_69_0 rfl) ?_
    refine O_qs (q_load Tryz.isAgg23 rfl (rd_chunk (by repeat (first | exact List.Mem.head _ | apply List.Mem.tail)) rfl)) ?_
    refine O_qs (q_cf Tryz.call99 rfl (fun wd hwd => (link_IsMarked _ x.into.word hx.into)) (by repeat (first | exact Pick.nil | exact Take.here | apply Pick.cons | apply Take.there))) ?_
    refine O_nil ?_
    refine W_cond rfl ?_ ?_
    · intro hm
      have hr : x.hold = (2, x) := by simp [Lane.hold, h0, hm]
      refine W_seq ?_
      refine W_reg rfl ?_
      refine O_qs (q_assign rfl) ?_
      refine O_nil ?_
      refine W_ret ?_
      refine res1 (c0 := [laneA lb cb x]) rfl rfl (by repeat (first | exact Pick.nil | exact Take.here | apply Pick.cons | apply Take.there)) rfl ?_
      rw [hr]
      exact ⟨rfl, rfl⟩
    · intro hm
      have hr : x.hold = (comeSt x.into, x.come x.into) := by simp [Lane.hold, h0, hm]
      refine W_skip ?_
      refine W_seq ?_
      refine W_reg rfl ?_
      refine O_qs (q_move rfl) ?_
      refine O_qs (q_move rfl) ?_
      refine O_qs (q_nil rfl) ?_
      refine O_qs (q_fa fa_127_6 rfl) ?_
      refine O_qs (q_loadN (vs := [_, _, _]) Tryz.isAgg69 Tryz.sizeOf69 rfl (rd_range (by repeat (first | exact List.Mem.head _ | apply List.Mem.tail)) rfl)) ?_
      refine O_es (e_cf Tryz.call98 rfl (fun wd hwd => (lane_come _ lb cb x x.into hx.into)) (by repeat (first | exact Pick.nil | exact Take.here | apply Pick.cons | apply Take.there))) ?_
      rintro _ _ ⟨_, ⟨rfl, rfl⟩, rfl⟩
      refine O_qs (q_assign rfl) ?_
      refine O_nil ?_
      refine W_ret ?_
      refine res1 (c0 := [laneA lb cb (x.come x.into)]) rfl rfl (by repeat (first | exact Pick.nil | exact Take.here | apply Pick.cons | apply Take.there)) rfl ?_
      rw [hr]
      exact ⟨rfl, rfl⟩
  · intro hc
    have h0 : ¬ x.pc = 1 := by simpa using hc
    refine W_seq ?_
    refine W_reg rfl ?_
    refine O_qs (q_eql rfl rfl) ?_
    refine O_qs (q_assign rfl) ?_
    refine O_nil ?_
    refine W_cond rfl ?_ ?_
    · intro hc3
      have h3 : x.pc = 3 := by simpa using hc3
      refine W_seq ?_
      refine W_reg rfl ?_
      refine O_qs (q_move rfl) ?_
      refine O_qs (q_nil rfl) ?_
      refine O_qs (q_fa fa_127_5 rfl) ?_
      refine O_en (e_store Tryz.sizeOf3 rfl rfl rfl (by repeat (first | exact Upd.here | apply Upd.there)) rfl (by simp only [setAll, List.setIfInBounds_toArray, List.set_cons_succ, List.set_cons_zero, Nat.reduceAdd, Nat.zero_add] <;> rfl)) ?_
      rintro _ _ ⟨rfl, rfl⟩
      refine O_nil ?_
      refine W_seq ?_
      refine W_seq ?_
      refine W_reg rfl ?_
      refine O_qs (q_move rfl) ?_
      refine O_qs (q_nil rfl) ?_
      refine O_qs (q_fa fa_127_7 rfl) ?_
      refine O_qs (q_fa fa_69_0 rfl) ?_
      refine O_qs (q_load Tryz.isAgg23 rfl (rd_chunk (by repeat (first | exact List.Mem.head _ | apply List.Mem.tail)) rfl)) ?_
      refine O_qs (q_cf Tryz.call99 rfl (fun wd hwd => (link_IsMarked _ x.out.word hx.out)) (by repeat (first | exact Pick.nil | exact Take.here | apply Pick.cons | apply Take.there))) ?_
      refine O_nil ?_
      refine W_cond rfl ?_ ?_
      · intro hm
        have hr : x.hold = (0, { x with pc := 4 }) := by simp [Lane.hold, h3, hm]
        refine W_reg rfl ?_
        refine O_qs (q_move rfl) ?_
        refine O_qs (q_nil rfl) ?_
        refine O_qs (q_fa fa_127_5 rfl) ?_
        refine O_en (e_store Tryz.sizeOf3 rfl rfl rfl (by repeat (first | exact Upd.here | apply Upd.there)) rfl (by simp only [setAll, List.setIfInBounds_toArray, List.set_cons_succ, List.set_cons_zero, Nat.reduceAdd, Nat.zero_add] <;> rfl)) ?_
        rintro _ _ ⟨rfl, rfl⟩
        refine O_nil ?_
        refine W_seq ?_
        refine W_reg rfl ?_
        refine O_qs (q_assign rfl) ?_
        refine O_nil ?_
        refine W_ret ?_
        refine res1 (c0 := [laneA lb cb { x with pc := 4 }]) rfl rfl (by repeat (first | exact Pick.nil | exact Take.here | apply Pick.cons | apply Take.there)) rfl ?_
        rw [hr]
        exact ⟨rfl, rfl⟩
      · intro hm
        have hr : x.hold = (0, { x with pc := 5 }) := by simp [Lane.hold, h3, hm]
        refine W_skip ?_
        refine W_seq ?_
        refine W_reg rfl ?_
        refine O_qs (q_assign rfl) ?_
        refine O_nil ?_
        refine W_ret ?_
        refine res1 (c0 := [laneA lb cb { x with pc := 5 }]) rfl rfl (by repeat (first | exact Pick.nil | exact Take.here | apply Pick.cons | apply Take.there)) rfl ?_
        rw [hr]
        exact ⟨rfl, rfl⟩
    · intro hc3
      have h3 : ¬ x.pc = 3 := by simpa using hc3
      refine W_seq ?_
      refine W_reg rfl ?_
      refine O_qs (q_eql rfl rfl) ?_
      refine O_qs (q_assign rfl) ?_
      refine O_nil ?_
      refine W_cond rfl ?_ ?_
      · intro hc6
        have h6 : x.pc = 6 := by simpa using hc6
        have hr : x.hold = x.compare := by simp [Lane.hold, h6]
        refine W_seq ?_
        refine W_reg rfl ?_
        refine O_qs (q_move rfl) ?_
        refine O_es (e_cf Tryz.call100 rfl (fun wd hwd => (lane_compare _ lb cb x hx)) (by repeat (first | exact Pick.nil | exact Take.here | apply Pick.cons | apply Take.there))) ?_
        rintro _ _ ⟨_, ⟨rfl, rfl⟩, rfl⟩
        refine O_qs (q_assign rfl) ?_
        refine O_nil ?_
        refine W_ret ?_
        refine res1 (c0 := [laneA lb cb x.compare.2]) rfl rfl (by repeat (first | exact Pick.nil | exact Take.here | apply Pick.cons | apply Take.there)) rfl ?_
        rw [hr]
        exact ⟨rfl, rfl⟩
      · intro hc6
        have h6 : ¬ x.pc = 6 := by simpa using hc6
        have hr : x.hold = (1, x) := by simp [Lane.hold, h0, h3, h6]
        refine W_skip ?_
        refine W_seq ?_
        refine W_reg rfl ?_
        refine O_qs (q_assign rfl) ?_
        refine O_nil ?_
        refine W_ret ?_
        refine res1 (c0 := [laneA lb cb x]) rfl rfl (by repeat (first | exact Pick.nil | exact Take.here | apply Pick.cons | apply Take.there)) rfl ?_
        rw [hr]
        exact ⟨rfl, rfl⟩

theorem lane_cut (B : World) (lb cb qb : Nat) (xc : Conf) (e : Int) (h : Who) (r : Int) (x : Lane) (hx : LaneOk x) (A : Atom) (wb : Nat) (k : Count) (l : List (Plc × Int)) (hA : PlainIs A wb l k) :
    Ctr Tryz.prog 66 [ptr lb, wI wb] B [laneA lb cb x, coreA cb qb xc e h r, A]
      (fun u c => ∃ A', PlainIs A' wb (if mem l x.at_.place = x.into.word then putw l x.at_.place (x.cutV e).word else l) (swapK k (decide (mem l x.at_.place = x.into.word))) ∧
        u = .int .i64 (if mem l x.at_.place = x.into.word then comeSt (x.cutV e) else 2) ∧ c = [laneA lb cb (if mem l x.at_.place = x.into.word then x.come (x.cutV e) else x), coreA cb qb xc e h r, A']) := by
  have hcw : Wd (x.cutV e).word := lword_bounds ..
  refine Ctr.intro (n := 40) Tryz.func66 rfl Tryz.ntmps66 (Nat.le_of_ble_eq_true rfl) ?_
  refine W_seq ?_
  refine W_reg rfl ?_
  refine O_qs (q_assign rfl) ?_
  refine O_nil ?_
  refine W_seq ?_
  refine W_draw [[], [0], [0, 1], [0, 1, 2], [], [4], [4, 5], [4, 5, 6], [4, 5, 6, 7], [0, 1, 2, 3, 4, 5, 6, 7, 8], [], [0, 1, 2, 3, 4, 5, 6, 7, 8, 9, 10]] rfl rfl rfl ?_
  refine V.qs 0 rfl rfl (q_move rfl) ?_
  refine V.qs 1 rfl rfl (q_nil rfl) ?_
  refine V.qs 2 rfl rfl (q_fa fa_127_0 rfl) ?_
  refine V.qs 3 rfl rfl (q_load Tryz.isAgg35 rfl (rd_chunk (by repeat (first | exact List.Mem.head _ | apply List.Mem.tail)) rfl)) ?_
  refine V.qs 4 rfl rfl (q_move rfl) ?_
  refine V.qs 5 rfl rfl (q_nil rfl) ?_
  refine V.qs 6 rfl rfl (q_fa fa_127_7 rfl) ?_
  refine V.qs 7 rfl rfl (q_loadN (vs := [_, _, _]) Tryz.isAgg69 Tryz.sizeOf69 rfl (rd_range (by repeat (first | exact List.Mem.head _ | apply List.Mem.tail)) rfl)) ?_
  refine V.qs 8 rfl rfl (q_cf Tryz.call97 rfl (fun wd hwd => (core_Lead _ x.out hx.out)) (by repeat (first | exact Pick.nil | exact Take.here | apply Pick.cons | apply Take.there))) ?_
  refine V.qs 9 rfl rfl (q_cf Tryz.call96 rfl (fun wd hwd => (core_To _ cb qb xc e h r (lead x.out))) (by repeat (first | exact Pick.nil | exact Take.here | apply Pick.cons | apply Take.there))) ?_
  refine V.e1s 10 [9, 8, 7, 6, 5, 4, 3, 2, 1, 0] rfl rfl rfl (e_alloc (cs := #[.int .u64 0, .int .i64 0, .bool false]) Tryz.zeroValue69 rfl) ?_
  rintro _ _ ⟨b5, rfl, rfl⟩
  refine ⟨st rfl rfl (q_cf Tryz.call96 rfl (fun wd hwd => (core_To _ cb qb xc e h r (lead x.out))) (by repeat (first | exact Pick.nil | exact Take.here | apply Pick.cons | apply Take.there))) (st rfl rfl (q_cf Tryz.call97 rfl (fun wd hwd => (core_Lead _ x.out hx.out)) (by repeat (first | exact Pick.nil | exact Take.here | apply Pick.cons | apply Take.there))) (st rfl rfl (q_loadN (vs := [_, _, _]) Tryz.isAgg69 Tryz.sizeOf69 rfl (rd_range (by repeat (first | exact List.Mem.head _ | apply List.Mem.tail)) rfl)) (st rfl rfl (q_fa fa_127_7 rfl) (st rfl rfl (q_nil rfl) (st rfl rfl (q_move rfl) (st rfl rfl (q_load Tryz.isAgg35 rfl (rd_chunk (by repeat (first | exact List.Mem.head _ | apply List.Mem.tail)) rfl)) (st rfl rfl (q_fa fa_127_0 rfl) (st rfl rfl (q_nil rfl) (st rfl rfl (q_move rfl) (st_nil)))))))))), ?_⟩
  refine V.e1n 11 [] rfl rfl rfl (e_storeN (vs := [_, _, _]) Tryz.sizeOf69 rfl rfl rfl (by repeat (first | exact Upd.here | apply Upd.there)) rfl (by simp only [setAll, List.setIfInBounds_toArray, List.set_cons_succ, List.set_cons_zero, Nat.reduceAdd, Nat.zero_add] <;> rfl)) ?_
  rintro _ _ ⟨rfl, rfl⟩
  refine ⟨st_nil, ?_⟩
  refine V.fin rfl ?_
  refine W_seq ?_
  refine W_reg rfl ?_
  refine O_qs (q_move rfl) ?_
  refine O_qs (q_nil rfl) ?_
  refine O_qs (q_fa fa_127_7 rfl) ?_
  refine O_qs (q_fa fa_69_2 rfl) ?_
  refine O_qs (q_load Tryz.isAgg4 rfl (rd_chunk (by repeat (first | exact List.Mem.head _ | apply List.Mem.tail)) rfl)) ?_
  refine O_qs (q_fa fa_69_2 rfl) ?_
  refine O_en (e_store Tryz.sizeOf4 rfl rfl rfl (by repeat (first | exact Upd.here | apply Upd.there)) rfl (by simp only [setAll, List.setIfInBounds_toArray, List.set_cons_succ, List.set_cons_zero, Nat.reduceAdd, Nat.zero_add] <;> rfl)) ?_
  rintro _ _ ⟨rfl, rfl⟩
  refine O_nil ?_
  refine W_seq ?_
  refine W_seq ?_
  refine W_draw [[], [], [1], [1, 2], [1, 2, 3], [], [5], [5, 6], [5, 6, 7], [], [0], [0, 10], [0, 10, 11], [0, 1, 2, 3, 4, 5, 6, 7, 8, 9, 10, 11, 12], [0, 1, 2, 3, 4, 5, 6, 7, 8, 9, 10, 11, 12, 13]] rfl rfl rfl ?_
  refine V.qs 0 rfl rfl (q_move rfl) ?_
  refine V.qs 1 rfl rfl (q_move rfl) ?_
  refine V.qs 2 rfl rfl (q_nil rfl) ?_
  refine V.qs 3 rfl rfl (q_fa fa_127_1 rfl) ?_
  refine V.qs 4 rfl rfl (q_loadN (vs := [_, _, _, _]) Tryz.isAgg54 Tryz.sizeOf54 rfl (rd_range (by repeat (first | exact List.Mem.head _ | apply List.Mem.tail)) rfl)) ?_
  refine V.qs 5 rfl rfl (q_move rfl) ?_
  refine V.qs 6 rfl rfl (q_nil rfl) ?_
  refine V.qs 7 rfl rfl (q_fa fa_127_6 rfl) ?_
  refine V.qs 8 rfl rfl (q_loadN (vs := [_, _, _]) Tryz.isAgg69 Tryz.sizeOf69 rfl (rd_range (by repeat (first | exact List.Mem.head _ | apply List.Mem.tail)) rfl)) ?_
  refine V.qs 9 rfl rfl (q_loadN (vs := [_, _, _]) Tryz.isAgg69 Tryz.sizeOf69 rfl (rd_range (by repeat (first | exact List.Mem.head _ | apply List.Mem.tail)) rfl)) ?_
  refine V.qs 10 rfl rfl (q_mkF rfl rfl) ?_
  refine V.qs 11 rfl rfl (q_nilM (by intro w; kernel_rfl) rfl) ?_
  refine V.qs 12 rfl rfl (q_move rfl) ?_
  refine V.e1s 13 [] rfl rfl rfl (e_inv (f := 173) (by intro args w; kernel_rfl) rfl rfl (fun wd hwd => (world_Swap _ A wb k l x.at_ x.into (x.cutV e) hcw hA)) (by repeat (first | exact Pick.nil | exact Take.here | apply Pick.cons | apply Take.there))) ?_
  rintro _ _ ⟨_, ⟨A', hA', rfl, rfl⟩, rfl⟩
  refine ⟨st_nil, ?_⟩
  refine V.qs 14 rfl rfl (q_not rfl) ?_
  refine V.fin rfl ?_
  refine W_cond rfl ?_ ?_
  · intro hc
    have h0 : ¬ mem l x.at_.place = x.into.word := by simpa using hc
    refine W_seq ?_
    refine W_reg rfl ?_
    refine O_qs (q_assign rfl) ?_
    refine O_nil ?_
    refine W_ret ?_
    refine res1 (c0 := [laneA lb cb x, coreA cb qb xc e h r, A']) rfl rfl (by repeat (first | exact Pick.nil | exact Take.here | apply Pick.cons | apply Take.there)) rfl ?_
    refine ⟨A', hA', ?_, ?_⟩
    · rw [if_neg h0]
    · rw [if_neg h0]
  · intro hc
    have h0 : mem l x.at_.place = x.into.word := by simpa using hc
    refine W_skip ?_
    refine W_seq ?_
    refine W_reg rfl ?_
    refine O_qs (q_move rfl) ?_
    refine O_qs (q_loadN (vs := [_, _, _]) Tryz.isAgg69 Tryz.sizeOf69 rfl (rd_range (by repeat (first | exact List.Mem.head _ | apply List.Mem.tail)) rfl)) ?_
    refine O_es (e_cf Tryz.call98 rfl (fun wd hwd => (lane_come _ lb cb x (x.cutV e) hcw)) (by repeat (first | exact Pick.nil | exact Take.here | apply Pick.cons | apply Take.there))) ?_
    rintro _ _ ⟨_, ⟨rfl, rfl⟩, rfl⟩
    refine O_qs (q_assign rfl) ?_
    refine O_nil ?_
    refine W_ret ?_
    refine res1 (c0 := [laneA lb cb (x.come (x.cutV e)), coreA cb qb xc e h r, A']) rfl rfl (by repeat (first | exact Pick.nil | exact Take.here | apply Pick.cons | apply Take.there)) rfl ?_
    refine ⟨A', hA', ?_, ?_⟩
    · rw [if_pos h0]
    · rw [if_pos h0]
end Go.Proofs.YtbfplncdmbjjhaaGreat
