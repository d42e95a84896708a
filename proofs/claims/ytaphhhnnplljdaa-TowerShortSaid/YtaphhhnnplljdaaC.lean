/-
  Walks: the core.
-/
import Derived.Test.YtaphhhnnplljdaaP
import Derived.Test.YtaphhhnnplljdaaQ
set_option linter.unusedSimpArgs false
set_option linter.unusedVariables false
namespace Go.Proofs.Ytaphhhnnplljdaa
open Go Go.SL

abbrev coreA (cb qb : Nat) (x : Conf) (e : Int) (h : Who) (r : Int) : Atom :=
  [(cb, .cells #[.int .i64 x.kind, .int .i64 x.slots, .int .i64 x.buckets, .int .i64 x.height, .int .i64 x.limit, .int .i64 e, ptr qb, .int .i64 h.slot, .int .i64 h.id, .int .i64 r] 117 (0, 0))]

/-- A word as an epoch. -/
def epw (w : Int) : Int := if w < 9223372036854775808 then w else 0

theorem core_New (B : World) (x : Conf) : Ctr Try.prog 8 [x.v] B []
    (fun u c => (x.err ≠ 0 ∧ u = .pointer none ∧ c = []) ∨ (x.err = 0 ∧ ∃ cb qb R v ring k h, QS R v ring k h 0 [] ∧ u = ptr cb ∧ c = [coreA cb qb x 0 ⟨0, 0⟩ 0, qraw qb v h 0, R])) := by
  refine Ctr.intro (n := 10) Try.func8 rfl Try.ntmps8 (Nat.le_of_ble_eq_true rfl) ?_
  refine W_seq ?_
  refine W_reg rfl ?_
  refine O_es (e_box (cs := #[_, _, _, _, _]) rfl rfl) ?_
  rintro _ _ ⟨b1, rfl, rfl⟩
  refine O_qs (q_assign rfl) ?_
  refine O_nil ?_
  refine W_seq ?_
  refine W_seq ?_
  refine W_reg rfl ?_
  refine O_qs (q_loadN (vs := [_, _, _, _, _]) Try.isAgg23 Try.sizeOf23 rfl (rd_range (by repeat (first | exact List.Mem.head _ | apply List.Mem.tail)) rfl)) ?_
  refine O_qs (q_cf Try.call56 rfl (fun wd hwd => (conf_Check _ x)) (by repeat (first | exact Pick.nil | exact Take.here | apply Pick.cons | apply Take.there))) ?_
  refine O_qs (q_neq rfl rfl) ?_
  refine O_nil ?_
  refine W_cond rfl ?_ ?_
  · intro hc
    have he : x.err ≠ 0 := by simpa using hc
    refine W_seq ?_
    refine W_reg rfl ?_
    refine O_qs (q_assign rfl) ?_
    refine O_nil ?_
    refine W_ret ?_
    refine res1 (c0 := []) rfl rfl (by repeat (first | exact Pick.nil | exact Take.here | apply Pick.cons | apply Take.there)) rfl ?_
    exact .inl ⟨he, rfl, rfl⟩
  · intro hc
    have he : x.err = 0 := by simpa using hc
    refine W_skip ?_
    refine W_seq ?_
    refine W_draw [[], [], [0, 1], [0, 1, 2], [0, 1, 2, 3]] rfl rfl rfl ?_
    refine V.qs 0 rfl rfl (q_loadN (vs := [_, _, _, _, _]) Try.isAgg23 Try.sizeOf23 rfl (rd_range (by repeat (first | exact List.Mem.head _ | apply List.Mem.tail)) rfl)) ?_
    refine V.e1s 1 [0] rfl rfl rfl (e_cf Try.call57 rfl (fun wd hwd => (queue_New _)) (by repeat (first | exact Pick.nil | exact Take.here | apply Pick.cons | apply Take.there))) ?_
    rintro _ _ ⟨_, ⟨qb, R, v, ring, k, h, hq, rfl, rfl⟩, rfl⟩
    refine ⟨st rfl rfl (q_loadN (vs := [_, _, _, _, _]) Try.isAgg23 Try.sizeOf23 rfl (rd_range (by repeat (first | exact List.Mem.head _ | apply List.Mem.tail)) rfl)) (st_nil), ?_⟩
    refine V.qs 2 rfl rfl (q_build rfl (bld_117 (cs := [_, _, _, _, _, _, _, _, _, _]) rfl)) ?_
    refine V.e1s 3 [] rfl rfl rfl (e_box (cs := #[_, _, _, _, _, _, _, _, _, _]) rfl rfl) ?_
    rintro _ _ ⟨b9, rfl, rfl⟩
    refine ⟨st_nil, ?_⟩
    refine V.qs 4 rfl rfl (q_assign rfl) ?_
    refine V.fin rfl ?_
    refine W_ret ?_
    refine res1 (c0 := [[(b9, _)], qraw qb v h 0, R]) rfl rfl (by repeat (first | exact Pick.nil | exact Take.here | apply Pick.cons | apply Take.there)) rfl ?_
    exact .inr ⟨he, b9, qb, R, v, ring, k, h, hq, rfl, rfl⟩

theorem core_Held (B : World) (cb qb : Nat) (x : Conf) (e : Int) (h : Who) (r : Int) : Ctr Try.prog 12 [ptr cb] B [coreA cb qb x e h r] (fun u c => u = .tuple #[h.v, .bool !decide (h.slot = 0)] ∧ c = [coreA cb qb x e h r]) := by
  refine Ctr.intro (n := 17) Try.func12 rfl Try.ntmps12 (Nat.le_of_ble_eq_true rfl) ?_
  refine W_seq ?_
  refine W_reg rfl ?_
  refine O_es (e_alloc (cs := #[.int .i64 0, .int .i64 0]) Try.zeroValue43 rfl) ?_
  rintro _ _ ⟨b2, rfl, rfl⟩
  refine O_qs (q_assign rfl) ?_
  refine O_nil ?_
  refine W_seq ?_
  refine W_seq ?_
  refine W_reg rfl ?_
  refine O_qs (q_move rfl) ?_
  refine O_qs (q_eqnil Try.runUnderlying26 rfl rfl) ?_
  refine O_nil ?_
  refine W_false rfl ?_
  refine W_skip ?_
  refine W_seq ?_
  refine W_draw [[], [0], [0, 1], [0, 1, 2], [], [4], [4, 5], [4, 5, 6], [4, 5, 6, 7], [4, 5, 6, 7, 8], [0, 1, 2, 3], [0, 1, 2, 3, 4, 5, 6, 7, 8, 9, 10]] rfl rfl rfl ?_
  refine V.qs 0 rfl rfl (q_move rfl) ?_
  refine V.qs 1 rfl rfl (q_nil rfl) ?_
  refine V.qs 2 rfl rfl (q_fa fa_117_3 rfl) ?_
  refine V.qs 3 rfl rfl (q_loadN (vs := [_, _]) Try.isAgg43 Try.sizeOf43 rfl (rd_range (by repeat (first | exact List.Mem.head _ | apply List.Mem.tail)) rfl)) ?_
  refine V.qs 4 rfl rfl (q_move rfl) ?_
  refine V.qs 5 rfl rfl (q_nil rfl) ?_
  refine V.qs 6 rfl rfl (q_fa fa_117_3 rfl) ?_
  refine V.qs 7 rfl rfl (q_fa fa_43_0 rfl) ?_
  refine V.qs 8 rfl rfl (q_load Try.isAgg3 rfl (rd_chunk (by repeat (first | exact List.Mem.head _ | apply List.Mem.tail)) rfl)) ?_
  refine V.qs 9 rfl rfl (q_neq rfl rfl) ?_
  refine V.e1n 10 [9, 8, 7, 6, 5, 4] rfl rfl rfl (e_storeN (vs := [_, _]) Try.sizeOf43 rfl rfl rfl (by repeat (first | exact Upd.here | apply Upd.there)) rfl (by simp only [setAll, List.setIfInBounds_toArray, List.set_cons_succ, List.set_cons_zero, Nat.reduceAdd, Nat.zero_add] <;> rfl)) ?_
  rintro _ _ ⟨rfl, rfl⟩
  refine ⟨st rfl rfl (q_neq rfl rfl) (st rfl rfl (q_load Try.isAgg3 rfl (rd_chunk (by repeat (first | exact List.Mem.head _ | apply List.Mem.tail)) rfl)) (st rfl rfl (q_fa fa_43_0 rfl) (st rfl rfl (q_fa fa_117_3 rfl) (st rfl rfl (q_nil rfl) (st rfl rfl (q_move rfl) (st_nil)))))), ?_⟩
  refine V.qs 11 rfl rfl (q_assign rfl) ?_
  refine V.fin rfl ?_
  refine W_ret ?_
  refine resL (c0 := [coreA cb qb x e h r]) rfl (.cell (us := [_, _]) Try.isAgg43 Try.sizeOf43 rfl (rd_range (by repeat (first | exact List.Mem.head _ | apply List.Mem.tail)) rfl) (.tmp rfl .nil)) (by repeat (first | exact Pick.nil | exact Take.here | apply Pick.cons | apply Take.there)) rfl ?_
  refine ⟨?_, rfl⟩
  simp [packR]

theorem core_Queue (B : World) (cb qb : Nat) (x : Conf) (e : Int) (h : Who) (r : Int) : Ctr Try.prog 13 [ptr cb] B [coreA cb qb x e h r] (fun u c => u = ptr qb ∧ c = [coreA cb qb x e h r]) := by
  refine Ctr.intro (n := 9) Try.func13 rfl Try.ntmps13 (Nat.le_of_ble_eq_true rfl) ?_
  refine W_seq ?_
  refine W_reg rfl ?_
  refine O_qs (q_assign rfl) ?_
  refine O_nil ?_
  refine W_seq ?_
  refine W_seq ?_
  refine W_reg rfl ?_
  refine O_qs (q_move rfl) ?_
  refine O_qs (q_eqnil Try.runUnderlying26 rfl rfl) ?_
  refine O_nil ?_
  refine W_false rfl ?_
  refine W_skip ?_
  refine W_seq ?_
  refine W_reg rfl ?_
  refine O_qs (q_move rfl) ?_
  refine O_qs (q_nil rfl) ?_
  refine O_qs (q_fa fa_117_2 rfl) ?_
  refine O_qs (q_load Try.isAgg53 rfl (rd_chunk (by repeat (first | exact List.Mem.head _ | apply List.Mem.tail)) rfl)) ?_
  refine O_qs (q_assign rfl) ?_
  refine O_nil ?_
  refine W_ret ?_
  refine res1 (c0 := [coreA cb qb x e h r]) rfl rfl (by repeat (first | exact Pick.nil | exact Take.here | apply Pick.cons | apply Take.there)) rfl ?_
  exact ⟨rfl, rfl⟩

theorem core_Conf (B : World) (cb qb : Nat) (x : Conf) (e : Int) (h : Who) (r : Int) : Ctr Try.prog 15 [ptr cb] B [coreA cb qb x e h r] (fun u c => u = x.v ∧ c = [coreA cb qb x e h r]) := by
  refine Ctr.intro (n := 10) Try.func15 rfl Try.ntmps15 (Nat.le_of_ble_eq_true rfl) ?_
  refine W_seq ?_
  refine W_reg rfl ?_
  refine O_es (e_alloc (cs := #[.int .i64 0, .int .i64 0, .int .i64 0, .int .i64 0, .int .i64 0]) Try.zeroValue23 rfl) ?_
  rintro _ _ ⟨b2, rfl, rfl⟩
  refine O_nil ?_
  refine W_seq ?_
  refine W_seq ?_
  refine W_reg rfl ?_
  refine O_qs (q_move rfl) ?_
  refine O_qs (q_eqnil Try.runUnderlying26 rfl rfl) ?_
  refine O_nil ?_
  refine W_false rfl ?_
  refine W_skip ?_
  refine W_seq ?_
  refine W_reg rfl ?_
  refine O_qs (q_move rfl) ?_
  refine O_qs (q_nil rfl) ?_
  refine O_qs (q_fa fa_117_0 rfl) ?_
  refine O_qs (q_loadN (vs := [_, _, _, _, _]) Try.isAgg23 Try.sizeOf23 rfl (rd_range (by repeat (first | exact List.Mem.head _ | apply List.Mem.tail)) rfl)) ?_
  refine O_en (e_storeN (vs := [_, _, _, _, _]) Try.sizeOf23 rfl rfl rfl (by repeat (first | exact Upd.here | apply Upd.there)) rfl (by simp only [setAll, List.setIfInBounds_toArray, List.set_cons_succ, List.set_cons_zero, Nat.reduceAdd, Nat.zero_add] <;> rfl)) ?_
  rintro _ _ ⟨rfl, rfl⟩
  refine O_nil ?_
  refine W_ret ?_
  refine resL (c0 := [coreA cb qb x e h r]) rfl (.cell (us := [_, _, _, _, _]) Try.isAgg23 Try.sizeOf23 rfl (rd_range (by repeat (first | exact List.Mem.head _ | apply List.Mem.tail)) rfl) .nil) (by repeat (first | exact Pick.nil | exact Take.here | apply Pick.cons | apply Take.there)) rfl ?_
  exact ⟨rfl, rfl⟩

theorem core_Epoch (B : World) (cb qb : Nat) (x : Conf) (e : Int) (h : Who) (r : Int) : Ctr Try.prog 53 [ptr cb] B [coreA cb qb x e h r] (fun u c => u = .int .i64 e ∧ c = [coreA cb qb x e h r]) := by
  refine Ctr.intro (n := 9) Try.func53 rfl Try.ntmps53 (Nat.le_of_ble_eq_true rfl) ?_
  refine W_seq ?_
  refine W_reg rfl ?_
  refine O_qs (q_assign rfl) ?_
  refine O_nil ?_
  refine W_seq ?_
  refine W_seq ?_
  refine W_reg rfl ?_
  refine O_qs (q_move rfl) ?_
  refine O_qs (q_eqnil Try.runUnderlying26 rfl rfl) ?_
  refine O_nil ?_
  refine W_false rfl ?_
  refine W_skip ?_
  refine W_seq ?_
  refine W_reg rfl ?_
  refine O_qs (q_move rfl) ?_
  refine O_qs (q_nil rfl) ?_
  refine O_qs (q_fa fa_117_1 rfl) ?_
  refine O_qs (q_load Try.isAgg3 rfl (rd_chunk (by repeat (first | exact List.Mem.head _ | apply List.Mem.tail)) rfl)) ?_
  refine O_qs (q_assign rfl) ?_
  refine O_nil ?_
  refine W_ret ?_
  refine res1 (c0 := [coreA cb qb x e h r]) rfl rfl (by repeat (first | exact Pick.nil | exact Take.here | apply Pick.cons | apply Take.there)) rfl ?_
  exact ⟨rfl, rfl⟩

theorem core_Rolls (B : World) (cb qb : Nat) (x : Conf) (e : Int) (h : Who) (r : Int) : Ctr Try.prog 16 [ptr cb] B [coreA cb qb x e h r] (fun u c => u = .int .i64 r ∧ c = [coreA cb qb x e h r]) := by
  refine Ctr.intro (n := 9) Try.func16 rfl Try.ntmps16 (Nat.le_of_ble_eq_true rfl) ?_
  refine W_seq ?_
  refine W_reg rfl ?_
  refine O_qs (q_assign rfl) ?_
  refine O_nil ?_
  refine W_seq ?_
  refine W_seq ?_
  refine W_reg rfl ?_
  refine O_qs (q_move rfl) ?_
  refine O_qs (q_eqnil Try.runUnderlying26 rfl rfl) ?_
  refine O_nil ?_
  refine W_false rfl ?_
  refine W_skip ?_
  refine W_seq ?_
  refine W_reg rfl ?_
  refine O_qs (q_move rfl) ?_
  refine O_qs (q_nil rfl) ?_
  refine O_qs (q_fa fa_117_4 rfl) ?_
  refine O_qs (q_load Try.isAgg3 rfl (rd_chunk (by repeat (first | exact List.Mem.head _ | apply List.Mem.tail)) rfl)) ?_
  refine O_qs (q_assign rfl) ?_
  refine O_nil ?_
  refine W_ret ?_
  refine res1 (c0 := [coreA cb qb x e h r]) rfl rfl (by repeat (first | exact Pick.nil | exact Take.here | apply Pick.cons | apply Take.there)) rfl ?_
  exact ⟨rfl, rfl⟩

theorem core_epoch (B : World) (A : Atom) (wb : Nat) (k : Count) (l : List (Plc × Int)) (hA : PlainIs A wb l k) :
    Ctr Try.prog 88 [wI wb] B [A] (fun u c => ∃ A', PlainIs A' wb l { k with loads := inc k.loads } ∧ u = .int .i64 (epw (mem l epochP)) ∧ c = [A']) := by
  have hm := hA.wds.mem epochP
  refine Ctr.intro (n := 18) Try.func88 rfl Try.ntmps88 (Nat.le_of_ble_eq_true rfl) ?_
  refine W_seq ?_
  refine W_reg rfl ?_
  refine O_qs (q_assign rfl) ?_
  refine O_nil ?_
  refine W_seq ?_
  refine W_draw [[], [], [1], [0], [0, 3], [0, 3, 4], [0, 1, 2, 3, 4, 5], [0, 1, 2, 3, 4, 5, 6], [0, 1, 2, 3, 4, 5, 6, 7], [0, 1, 2, 3, 4, 5, 6, 7, 8], [0, 1, 2, 3, 4, 5, 6, 7, 8, 9], [0, 1, 2, 3, 4, 5, 6, 7, 8, 9], [0, 1, 2, 3, 4, 5, 6, 7, 8, 9, 10], [0, 1, 2, 3, 4, 5, 6, 7, 8, 9, 10, 11, 12]] rfl rfl rfl ?_
  refine V.qs 0 rfl rfl (q_move rfl) ?_
  refine V.qs 3 rfl rfl (q_mkF rfl rfl) ?_
  refine V.qs 4 rfl rfl (q_nilM (by intro w; kernel_rfl) rfl) ?_
  refine V.qs 5 rfl rfl (q_move rfl) ?_
  refine V.qs 1 rfl rfl (q_cf Try.call36 rfl (fun wd hwd => (place_Epoch _)) (by repeat (first | exact Pick.nil | exact Take.here | apply Pick.cons | apply Take.there))) ?_
  refine V.qs 2 rfl rfl (q_build rfl (bld_91 (cs := [_, _, _, _]) rfl)) ?_
  refine V.e1s 6 [] rfl rfl rfl (e_inv (f := 138) (by intro args w; kernel_rfl) rfl rfl (fun wd hwd => (world_Load _ A wb k l ⟨epochP, 0⟩ hA)) (by repeat (first | exact Pick.nil | exact Take.here | apply Pick.cons | apply Take.there))) ?_
  rintro _ _ ⟨_, ⟨A', hA', rfl, rfl⟩, rfl⟩
  refine ⟨st_nil, ?_⟩
  refine V.qs 7 rfl rfl (q_field (fd_45_0 rfl) rfl) ?_
  refine V.qs 8 rfl rfl (q_cf Try.call109 rfl (fun wd hwd => (field_Int _ (mem l epochP) hm)) (by repeat (first | exact Pick.nil | exact Take.here | apply Pick.cons | apply Take.there))) ?_
  refine V.qs 9 rfl rfl (q_move rfl) ?_
  refine V.qs 10 rfl rfl (q_extract rfl rfl) ?_
  refine V.qs 11 rfl rfl (q_extract rfl rfl) ?_
  refine V.qs 12 rfl rfl (q_assign rfl) ?_
  refine V.qs 13 rfl rfl (q_assign rfl) ?_
  refine V.fin rfl ?_
  refine W_seq ?_
  refine W_reg rfl ?_
  refine O_qs (q_move rfl) ?_
  refine O_qs (q_assign rfl) ?_
  refine O_nil ?_
  refine W_ret ?_
  refine res1 (c0 := [A']) rfl rfl (by repeat (first | exact Pick.nil | exact Take.here | apply Pick.cons | apply Take.there)) rfl ?_
  exact ⟨A', hA', rfl, rfl⟩

theorem core_Check (B : World) (cb qb : Nat) (x : Conf) (e : Int) (h : Who) (r : Int) (A : Atom) (wb : Nat) (k : Count) (l : List (Plc × Int)) (hA : PlainIs A wb l k) :
    Ctr Try.prog 48 [ptr cb, wI wb] B [coreA cb qb x e h r, A] (fun u c => ∃ A', PlainIs A' wb l { k with loads := inc k.loads } ∧ u = .tuple #[] ∧ c = [coreA cb qb x (epw (mem l epochP)) h r, A']) := by
  refine Ctr.intro (n := 11) Try.func48 rfl Try.ntmps48 (Nat.le_of_ble_eq_true rfl) ?_
  refine W_seq ?_
  refine W_reg rfl ?_
  refine O_qs (q_move rfl) ?_
  refine O_qs (q_nenil Try.runUnderlying26 rfl rfl) ?_
  refine O_nil ?_
  refine W_true rfl ?_
  refine W_reg rfl ?_
  refine O_qs (q_move rfl) ?_
  refine O_qs (q_move rfl) ?_
  refine O_es (e_cf Try.call88 rfl (fun wd hwd => (core_epoch _ A wb k l hA)) (by repeat (first | exact Pick.nil | exact Take.here | apply Pick.cons | apply Take.there))) ?_
  rintro _ _ ⟨_, ⟨A', hA', rfl, rfl⟩, rfl⟩
  refine O_qs (q_nil rfl) ?_
  refine O_qs (q_fa fa_117_1 rfl) ?_
  refine O_en (e_store Try.sizeOf3 rfl rfl rfl (by repeat (first | exact Upd.here | apply Upd.there)) rfl (by simp only [setAll, List.setIfInBounds_toArray, List.set_cons_succ, List.set_cons_zero, Nat.reduceAdd, Nat.zero_add] <;> rfl)) ?_
  rintro _ _ ⟨rfl, rfl⟩
  refine O_nil ?_
  refine res0 (c0 := [coreA cb qb x (epw (mem l epochP)) h r, A']) rfl (by repeat (first | exact Pick.nil | exact Take.here | apply Pick.cons | apply Take.there)) rfl ?_
  exact ⟨A', hA', rfl, rfl⟩

theorem core_Valid (B : World) (cb qb : Nat) (x : Conf) (e : Int) (h : Who) (r : Int) (A : Atom) (wb : Nat) (k : Count) (l : List (Plc × Int)) (hA : PlainIs A wb l k) :
    Ctr Try.prog 49 [ptr cb, wI wb] B [coreA cb qb x e h r, A]
      (fun u c => ∃ A', PlainIs A' wb l { k with loads := inc k.loads } ∧ u = .bool (decide (mem l epochP = IntKind.u64.wrap e)) ∧ c = [coreA cb qb x e h (if mem l epochP = IntKind.u64.wrap e then r else inc r), A']) := by
  refine Ctr.intro (n := 32) Try.func49 rfl Try.ntmps49 (Nat.le_of_ble_eq_true rfl) ?_
  refine W_seq ?_
  refine W_reg rfl ?_
  refine O_qs (q_assign rfl) ?_
  refine O_nil ?_
  refine W_seq ?_
  refine W_seq ?_
  refine W_reg rfl ?_
  refine O_qs (q_move rfl) ?_
  refine O_qs (q_eqnil Try.runUnderlying26 rfl rfl) ?_
  refine O_nil ?_
  refine W_false rfl ?_
  refine W_skip ?_
  refine W_seq ?_
  refine W_draw [[], [], [1], [0], [0, 3], [0, 3, 4], [0, 1, 2, 3, 4, 5], [0, 1, 2, 3, 4, 5, 6], [], [8], [8, 9], [8, 9, 10], [8, 9, 10, 11], [0, 1, 2, 3, 4, 5, 6, 7, 8, 9, 10, 11, 12], [0, 1, 2, 3, 4, 5, 6, 7, 8, 9, 10, 11, 12, 13]] rfl rfl rfl ?_
  refine V.qs 0 rfl rfl (q_move rfl) ?_
  refine V.qs 3 rfl rfl (q_mkF rfl rfl) ?_
  refine V.qs 4 rfl rfl (q_nilM (by intro w; kernel_rfl) rfl) ?_
  refine V.qs 5 rfl rfl (q_move rfl) ?_
  refine V.qs 8 rfl rfl (q_move rfl) ?_
  refine V.qs 9 rfl rfl (q_nil rfl) ?_
  refine V.qs 10 rfl rfl (q_fa fa_117_1 rfl) ?_
  refine V.qs 11 rfl rfl (q_load Try.isAgg3 rfl (rd_chunk (by repeat (first | exact List.Mem.head _ | apply List.Mem.tail)) rfl)) ?_
  refine V.qs 12 rfl rfl (q_conv (c := IntKind.u64.wrap e) Try.runUnderlying3 Try.runUnderlying41 rfl rfl) ?_
  refine V.qs 1 rfl rfl (q_cf Try.call36 rfl (fun wd hwd => (place_Epoch _)) (by repeat (first | exact Pick.nil | exact Take.here | apply Pick.cons | apply Take.there))) ?_
  refine V.qs 2 rfl rfl (q_build rfl (bld_91 (cs := [_, _, _, _]) rfl)) ?_
  refine V.e1s 6 [12, 11, 10, 9, 8] rfl rfl rfl (e_inv (f := 138) (by intro args w; kernel_rfl) rfl rfl (fun wd hwd => (world_Load _ A wb k l ⟨epochP, 0⟩ hA)) (by repeat (first | exact Pick.nil | exact Take.here | apply Pick.cons | apply Take.there))) ?_
  rintro _ _ ⟨_, ⟨A', hA', rfl, rfl⟩, rfl⟩
  refine ⟨st rfl rfl (q_conv (c := IntKind.u64.wrap e) Try.runUnderlying3 Try.runUnderlying41 rfl rfl) (st rfl rfl (q_load Try.isAgg3 rfl (rd_chunk (by repeat (first | exact List.Mem.head _ | apply List.Mem.tail)) rfl)) (st rfl rfl (q_fa fa_117_1 rfl) (st rfl rfl (q_nil rfl) (st rfl rfl (q_move rfl) (st_nil))))), ?_⟩
  refine V.qs 7 rfl rfl (q_field (fd_45_0 rfl) rfl) ?_
  refine V.qs 13 rfl rfl (q_eql rfl rfl) ?_
  refine V.qs 14 rfl rfl (q_assign rfl) ?_
  refine V.fin rfl ?_
  refine W_seq ?_
  refine W_seq ?_
  refine W_reg rfl ?_
  refine O_qs (q_move rfl) ?_
  refine O_qs (q_not rfl) ?_
  refine O_nil ?_
  refine W_cond rfl ?_ ?_
  · intro hc
    have he : ¬ mem l epochP = IntKind.u64.wrap e := by simpa using hc
    refine W_reg rfl ?_
    refine O_qs (q_move rfl) ?_
    refine O_qs (q_nil rfl) ?_
    refine O_qs (q_fa fa_117_4 rfl) ?_
    refine O_qs (q_load Try.isAgg3 rfl (rd_chunk (by repeat (first | exact List.Mem.head _ | apply List.Mem.tail)) rfl)) ?_
    refine O_qs (q_add (c := inc r) rfl rfl rfl) ?_
    refine O_qs (q_nil rfl) ?_
    refine O_qs (q_fa fa_117_4 rfl) ?_
    refine O_en (e_store Try.sizeOf3 rfl rfl rfl (by repeat (first | exact Upd.here | apply Upd.there)) rfl (by simp only [setAll, List.setIfInBounds_toArray, List.set_cons_succ, List.set_cons_zero, Nat.reduceAdd, Nat.zero_add] <;> rfl)) ?_
    rintro _ _ ⟨rfl, rfl⟩
    refine O_nil ?_
    refine W_seq ?_
    refine W_reg rfl ?_
    refine O_qs (q_move rfl) ?_
    refine O_qs (q_assign rfl) ?_
    refine O_nil ?_
    refine W_ret ?_
    refine res1 (c0 := [coreA cb qb x e h (inc r), A']) rfl rfl (by repeat (first | exact Pick.nil | exact Take.here | apply Pick.cons | apply Take.there)) rfl ?_
    exact ⟨A', hA', rfl, by rw [if_neg he]⟩
  · intro hc
    have he : mem l epochP = IntKind.u64.wrap e := by simpa using hc
    refine W_skip ?_
    refine W_seq ?_
    refine W_reg rfl ?_
    refine O_qs (q_move rfl) ?_
    refine O_qs (q_assign rfl) ?_
    refine O_nil ?_
    refine W_ret ?_
    refine res1 (c0 := [coreA cb qb x e h r, A']) rfl rfl (by repeat (first | exact Pick.nil | exact Take.here | apply Pick.cons | apply Take.there)) rfl ?_
    exact ⟨A', hA', rfl, by rw [if_pos he]⟩

def holdErr (x : Conf) (h y : Who) : Int := if h.slot ≠ 0 then 10 else if y.slot < 1 ∨ x.slots < y.slot then 1 else 0

theorem core_Hold (B : World) (cb qb : Nat) (x : Conf) (e : Int) (h : Who) (r : Int) (y : Who) :
    Ctr Try.prog 50 [ptr cb, y.v] B [coreA cb qb x e h r] (fun u c => u = .int .i64 (holdErr x h y) ∧ c = [coreA cb qb x e (if holdErr x h y = 0 then y else h) r]) := by
  refine Ctr.intro (n := 33) Try.func50 rfl Try.ntmps50 (Nat.le_of_ble_eq_true rfl) ?_
  refine W_seq ?_
  refine W_reg rfl ?_
  refine O_es (e_box (cs := #[_, _]) rfl rfl) ?_
  rintro _ _ ⟨b3, rfl, rfl⟩
  refine O_qs (q_assign rfl) ?_
  refine O_nil ?_
  refine W_seq ?_
  refine W_block ?_
  refine W_seq ?_
  refine W_reg rfl ?_
  refine O_qs (q_move rfl) ?_
  refine O_qs (q_eqnil Try.runUnderlying26 rfl rfl) ?_
  refine O_qs (q_assign rfl) ?_
  refine O_nil ?_
  refine W_false rfl ?_
  refine W_seq ?_
  refine W_reg rfl ?_
  refine O_qs (q_move rfl) ?_
  refine O_qs (q_nil rfl) ?_
  refine O_qs (q_fa fa_117_3 rfl) ?_
  refine O_qs (q_fa fa_43_0 rfl) ?_
  refine O_qs (q_load Try.isAgg3 rfl (rd_chunk (by repeat (first | exact List.Mem.head _ | apply List.Mem.tail)) rfl)) ?_
  refine O_qs (q_neq rfl rfl) ?_
  refine O_qs (q_assign rfl) ?_
  refine O_nil ?_
  refine W_cond rfl ?_ ?_
  · intro hc
    have h0 : h.slot ≠ 0 := by simpa using hc
    have he : holdErr x h y = 10 := by unfold holdErr; rw [if_pos h0]
    refine W_seq ?_
    refine W_reg rfl ?_
    refine O_qs (q_assign rfl) ?_
    refine O_nil ?_
    refine W_ret ?_
    refine res1 (c0 := [coreA cb qb x e h r]) rfl rfl (by repeat (first | exact Pick.nil | exact Take.here | apply Pick.cons | apply Take.there)) rfl ?_
    rw [he]
    exact ⟨rfl, rfl⟩
  · intro hc
    have h0 : ¬ h.slot ≠ 0 := by simpa using hc
    refine W_seq ?_
    refine W_draw [[], [0], [0, 1], [0, 1, 2], [0, 1, 2, 3], [0, 1, 2, 3, 4], [0, 1, 2, 3], [0, 1, 2, 3, 6], [0, 1, 2, 3, 6, 7], [0, 1, 2, 3, 6, 7, 8], [0, 1, 2, 3, 6, 7, 8, 9], [0, 1, 2, 3, 4, 5, 6, 7, 8, 9, 10], [0, 1, 2, 3, 4, 5, 6, 7, 8, 9, 10, 11], [0, 1, 2, 3, 4, 5, 6, 7, 8, 9, 10, 11, 12]] rfl rfl rfl ?_
    refine V.qs 0 rfl rfl (q_fa fa_43_0 rfl) ?_
    refine V.qs 1 rfl rfl (q_load Try.isAgg3 rfl (rd_chunk (by repeat (first | exact List.Mem.head _ | apply List.Mem.tail)) rfl)) ?_
    refine V.qs 2 rfl rfl (q_lss rfl rfl) ?_
    refine V.qs 3 rfl rfl (q_move rfl) ?_
    refine V.qs 4 rfl rfl (QY.cond0 rfl rfl rfl (fun H => q_fa fa_43_0 rfl)) ?_
    refine V.qs 5 rfl rfl (QY.cond0 rfl rfl rfl (fun H => q_load Try.isAgg3 (gvh rfl H) (rd_chunk (by repeat (first | exact List.Mem.head _ | apply List.Mem.tail)) rfl))) ?_
    refine V.qs 6 rfl rfl (QY.cond0 rfl rfl rfl (fun H => q_move rfl)) ?_
    refine V.qs 7 rfl rfl (QY.cond0 rfl rfl rfl (fun H => q_nil (gvh rfl H))) ?_
    refine V.qs 8 rfl rfl (QY.cond0 rfl rfl rfl (fun H => q_fa fa_117_0 (gvh rfl H))) ?_
    refine V.qs 9 rfl rfl (QY.cond0 rfl rfl rfl (fun H => q_fa fa_23_1 (gvh rfl H))) ?_
    refine V.qs 10 rfl rfl (QY.cond0 rfl rfl rfl (fun H => q_load Try.isAgg3 (gvh rfl H) (rd_chunk (by repeat (first | exact List.Mem.head _ | apply List.Mem.tail)) rfl))) ?_
    refine V.qs 11 rfl rfl (QY.cond0 rfl rfl rfl (fun H => q_gtr (gvh rfl H) (gvh rfl H))) ?_
    refine V.qs 12 rfl rfl (q_or rfl rfl rfl) ?_
    refine V.qs 13 rfl rfl (q_assign rfl) ?_
    refine V.fin rfl ?_
    refine W_cond rfl ?_ ?_
    · intro hd
      have h1 : y.slot < 1 ∨ x.slots < y.slot := by simpa using hd
      have he : holdErr x h y = 1 := by unfold holdErr; rw [if_neg h0, if_pos h1]
      refine W_seq ?_
      refine W_reg rfl ?_
      refine O_qs (q_assign rfl) ?_
      refine O_nil ?_
      refine W_ret ?_
      refine res1 (c0 := [coreA cb qb x e h r]) rfl rfl (by repeat (first | exact Pick.nil | exact Take.here | apply Pick.cons | apply Take.there)) rfl ?_
      rw [he]
      exact ⟨rfl, rfl⟩
    · intro hd
      have h1 : ¬ (y.slot < 1 ∨ x.slots < y.slot) := by simp at hd; omega
      have he : holdErr x h y = 0 := by unfold holdErr; rw [if_neg h0, if_neg h1]
      refine W_skip ?_
      refine W_seq ?_
      refine W_reg rfl ?_
      refine O_qs (q_move rfl) ?_
      refine O_qs (q_loadN (vs := [_, _]) Try.isAgg43 Try.sizeOf43 rfl (rd_range (by repeat (first | exact List.Mem.head _ | apply List.Mem.tail)) rfl)) ?_
      refine O_qs (q_nil rfl) ?_
      refine O_qs (q_fa fa_117_3 rfl) ?_
      refine O_en (e_storeN (vs := [_, _]) Try.sizeOf43 rfl rfl rfl (by repeat (first | exact Upd.here | apply Upd.there)) rfl (by simp only [setAll, List.setIfInBounds_toArray, List.set_cons_succ, List.set_cons_zero, Nat.reduceAdd, Nat.zero_add] <;> rfl)) ?_
      rintro _ _ ⟨rfl, rfl⟩
      refine O_nil ?_
      refine W_seq ?_
      refine W_reg rfl ?_
      refine O_qs (q_assign rfl) ?_
      refine O_nil ?_
      refine W_ret ?_
      refine res1 (c0 := [coreA cb qb x e y r]) rfl rfl (by repeat (first | exact Pick.nil | exact Take.here | apply Pick.cons | apply Take.there)) rfl ?_
      rw [he]
      exact ⟨rfl, rfl⟩

theorem core_To (B : World) (cb qb : Nat) (x : Conf) (e : Int) (h : Who) (r : Int) (y : Who) :
    Ctr Try.prog 54 [ptr cb, y.v] B [coreA cb qb x e h r] (fun u c => u = (Val.mk (lword false y.slot e) y.id false).v ∧ c = [coreA cb qb x e h r]) := by
  refine Ctr.intro (n := 18) Try.func54 rfl Try.ntmps54 (Nat.le_of_ble_eq_true rfl) ?_
  refine W_seq ?_
  refine W_reg rfl ?_
  refine O_es (e_box (cs := #[_, _]) rfl rfl) ?_
  rintro _ _ ⟨b3, rfl, rfl⟩
  refine O_es (e_alloc (cs := #[.int .u64 0, .int .i64 0, .bool false]) Try.zeroValue45 rfl) ?_
  rintro _ _ ⟨b4, rfl, rfl⟩
  refine O_nil ?_
  refine W_seq ?_
  refine W_seq ?_
  refine W_reg rfl ?_
  refine O_qs (q_move rfl) ?_
  refine O_qs (q_eqnil Try.runUnderlying26 rfl rfl) ?_
  refine O_nil ?_
  refine W_false rfl ?_
  refine W_skip ?_
  refine W_seq ?_
  refine W_draw [[], [0], [], [2], [2, 3], [2, 3, 4], [0, 1, 2, 3, 4, 5], [], [7], [0, 1, 2, 3, 4, 5, 6, 7, 8], [0, 1, 2, 3, 4, 5, 6, 7, 8, 9]] rfl rfl rfl ?_
  refine V.qs 0 rfl rfl (q_fa fa_43_0 rfl) ?_
  refine V.qs 1 rfl rfl (q_load Try.isAgg3 rfl (rd_chunk (by repeat (first | exact List.Mem.head _ | apply List.Mem.tail)) rfl)) ?_
  refine V.qs 2 rfl rfl (q_move rfl) ?_
  refine V.qs 3 rfl rfl (q_nil rfl) ?_
  refine V.qs 4 rfl rfl (q_fa fa_117_1 rfl) ?_
  refine V.qs 5 rfl rfl (q_load Try.isAgg3 rfl (rd_chunk (by repeat (first | exact List.Mem.head _ | apply List.Mem.tail)) rfl)) ?_
  refine V.qs 7 rfl rfl (q_fa fa_43_1 rfl) ?_
  refine V.qs 8 rfl rfl (q_load Try.isAgg3 rfl (rd_chunk (by repeat (first | exact List.Mem.head _ | apply List.Mem.tail)) rfl)) ?_
  refine V.qs 6 rfl rfl (q_cf Try.call55 rfl (fun wd hwd => (link_To _ y.slot e)) (by repeat (first | exact Pick.nil | exact Take.here | apply Pick.cons | apply Take.there))) ?_
  refine V.qs 9 rfl rfl (q_build rfl (bld_45 (cs := [_, _, _]) rfl)) ?_
  refine V.e1n 10 [] rfl rfl rfl (e_storeN (vs := [_, _, _]) Try.sizeOf45 rfl rfl rfl (by repeat (first | exact Upd.here | apply Upd.there)) rfl (by simp only [setAll, List.setIfInBounds_toArray, List.set_cons_succ, List.set_cons_zero, Nat.reduceAdd, Nat.zero_add] <;> rfl)) ?_
  rintro _ _ ⟨rfl, rfl⟩
  refine ⟨st_nil, ?_⟩
  refine V.fin rfl ?_
  refine W_ret ?_
  refine resL (c0 := [coreA cb qb x e h r]) rfl (.cell (us := [_, _, _]) Try.isAgg45 Try.sizeOf45 rfl (rd_range (by repeat (first | exact List.Mem.head _ | apply List.Mem.tail)) rfl) .nil) (by repeat (first | exact Pick.nil | exact Take.here | apply Pick.cons | apply Take.there)) rfl ?_
  exact ⟨rfl, rfl⟩

theorem core_Mark (B : World) (cb qb : Nat) (x : Conf) (e : Int) (h : Who) (r : Int) (o : Val) (ho : 0 ≤ o.word ∧ o.word < 18446744073709551616) (y : Who) :
    Ctr Try.prog 67 [ptr cb, o.v, y.v] B [coreA cb qb x e h r] (fun u c => u = (if marked o.word then o else Val.mk (lword true y.slot e) y.id false).v ∧ c = [coreA cb qb x e h r]) := by
  refine Ctr.intro (n := 28) Try.func67 rfl Try.ntmps67 (Nat.le_of_ble_eq_true rfl) ?_
  refine W_seq ?_
  refine W_reg rfl ?_
  refine O_es (e_box (cs := #[_, _, _]) rfl rfl) ?_
  rintro _ _ ⟨b4, rfl, rfl⟩
  refine O_es (e_box (cs := #[_, _]) rfl rfl) ?_
  rintro _ _ ⟨b5, rfl, rfl⟩
  refine O_es (e_alloc (cs := #[.int .u64 0, .int .i64 0, .bool false]) Try.zeroValue45 rfl) ?_
  rintro _ _ ⟨b6, rfl, rfl⟩
  refine O_nil ?_
  refine W_seq ?_
  refine W_block ?_
  refine W_seq ?_
  refine W_reg rfl ?_
  refine O_qs (q_move rfl) ?_
  refine O_qs (q_eqnil Try.runUnderlying26 rfl rfl) ?_
  refine O_qs (q_assign rfl) ?_
  refine O_nil ?_
  refine W_false rfl ?_
  refine W_seq ?_
  refine W_reg rfl ?_
  refine O_qs (q_fa fa_45_0 rfl) ?_
  refine O_qs (q_load Try.isAgg41 rfl (rd_chunk (by repeat (first | exact List.Mem.head _ | apply List.Mem.tail)) rfl)) ?_
  refine O_qs (q_cf Try.call95 rfl (fun wd hwd => (link_IsMarked _ o.word ho)) (by repeat (first | exact Pick.nil | exact Take.here | apply Pick.cons | apply Take.there))) ?_
  refine O_qs (q_assign rfl) ?_
  refine O_nil ?_
  refine W_cond rfl ?_ ?_
  · intro hc
    refine W_seq ?_
    refine W_reg rfl ?_
    refine O_qs (q_loadN (vs := [_, _, _]) Try.isAgg45 Try.sizeOf45 rfl (rd_range (by repeat (first | exact List.Mem.head _ | apply List.Mem.tail)) rfl)) ?_
    refine O_en (e_storeN (vs := [_, _, _]) Try.sizeOf45 rfl rfl rfl (by repeat (first | exact Upd.here | apply Upd.there)) rfl (by simp only [setAll, List.setIfInBounds_toArray, List.set_cons_succ, List.set_cons_zero, Nat.reduceAdd, Nat.zero_add] <;> rfl)) ?_
    rintro _ _ ⟨rfl, rfl⟩
    refine O_nil ?_
    refine W_ret ?_
    refine resL (c0 := [coreA cb qb x e h r]) rfl (.cell (us := [_, _, _]) Try.isAgg45 Try.sizeOf45 rfl (rd_range (by repeat (first | exact List.Mem.head _ | apply List.Mem.tail)) rfl) .nil) (by repeat (first | exact Pick.nil | exact Take.here | apply Pick.cons | apply Take.there)) rfl ?_
    rw [if_pos hc]
    exact ⟨rfl, rfl⟩
  · intro hc
    refine W_skip ?_
    refine W_seq ?_
    refine W_draw [[], [0], [], [2], [], [4], [4, 5], [4, 5, 6], [0, 1, 2, 3, 4, 5, 6, 7], [], [9], [0, 1, 2, 3, 4, 5, 6, 7, 8, 9, 10], [0, 1, 2, 3, 4, 5, 6, 7, 8, 9, 10, 11]] rfl rfl rfl ?_
    refine V.qs 0 rfl rfl (q_fa fa_45_0 rfl) ?_
    refine V.qs 1 rfl rfl (q_load Try.isAgg41 rfl (rd_chunk (by repeat (first | exact List.Mem.head _ | apply List.Mem.tail)) rfl)) ?_
    refine V.qs 2 rfl rfl (q_fa fa_43_0 rfl) ?_
    refine V.qs 3 rfl rfl (q_load Try.isAgg3 rfl (rd_chunk (by repeat (first | exact List.Mem.head _ | apply List.Mem.tail)) rfl)) ?_
    refine V.qs 4 rfl rfl (q_move rfl) ?_
    refine V.qs 5 rfl rfl (q_nil rfl) ?_
    refine V.qs 6 rfl rfl (q_fa fa_117_1 rfl) ?_
    refine V.qs 7 rfl rfl (q_load Try.isAgg3 rfl (rd_chunk (by repeat (first | exact List.Mem.head _ | apply List.Mem.tail)) rfl)) ?_
    refine V.qs 9 rfl rfl (q_fa fa_43_1 rfl) ?_
    refine V.qs 10 rfl rfl (q_load Try.isAgg3 rfl (rd_chunk (by repeat (first | exact List.Mem.head _ | apply List.Mem.tail)) rfl)) ?_
    refine V.qs 8 rfl rfl (q_cf Try.call96 rfl (fun wd hwd => (link_Marked _ o.word y.slot e ho)) (by repeat (first | exact Pick.nil | exact Take.here | apply Pick.cons | apply Take.there))) ?_
    refine V.qs 11 rfl rfl (q_build rfl (bld_45 (cs := [_, _, _]) rfl)) ?_
    refine V.e1n 12 [] rfl rfl rfl (e_storeN (vs := [_, _, _]) Try.sizeOf45 rfl rfl rfl (by repeat (first | exact Upd.here | apply Upd.there)) rfl (by simp only [setAll, List.setIfInBounds_toArray, List.set_cons_succ, List.set_cons_zero, Nat.reduceAdd, Nat.zero_add] <;> rfl)) ?_
    rintro _ _ ⟨rfl, rfl⟩
    refine ⟨st_nil, ?_⟩
    refine V.fin rfl ?_
    refine W_ret ?_
    refine resL (c0 := [coreA cb qb x e h r]) rfl (.cell (us := [_, _, _]) Try.isAgg45 Try.sizeOf45 rfl (rd_range (by repeat (first | exact List.Mem.head _ | apply List.Mem.tail)) rfl) .nil) (by repeat (first | exact Pick.nil | exact Take.here | apply Pick.cons | apply Take.there)) rfl ?_
    rw [hc]
    exact ⟨rfl, rfl⟩

theorem core_Take (B : World) (cb qb : Nat) (x : Conf) (e : Int) (h : Who) (r : Int) :
    Ctr Try.prog 68 [ptr cb] B [coreA cb qb x e h r] (fun u c => u = .tuple #[h.v, .bool !decide (h.slot = 0)] ∧ c = [coreA cb qb x e (if h.slot = 0 then h else ⟨0, 0⟩) r]) := by
  refine Ctr.intro (n := 18) Try.func68 rfl Try.ntmps68 (Nat.le_of_ble_eq_true rfl) ?_
  refine W_seq ?_
  refine W_reg rfl ?_
  refine O_es (e_alloc (cs := #[.int .i64 0, .int .i64 0]) Try.zeroValue43 rfl) ?_
  rintro _ _ ⟨b2, rfl, rfl⟩
  refine O_qs (q_assign rfl) ?_
  refine O_nil ?_
  refine W_seq ?_
  refine W_reg rfl ?_
  refine O_qs (q_move rfl) ?_
  refine O_qs (q_cf Try.call12 rfl (fun wd hwd => (core_Held _ cb qb x e h r)) (by repeat (first | exact Pick.nil | exact Take.here | apply Pick.cons | apply Take.there))) ?_
  refine O_qs (q_move rfl) ?_
  refine O_qs (q_extract rfl rfl) ?_
  refine O_qs (q_extract rfl rfl) ?_
  refine O_es (e_alloc (cs := #[.int .i64 0, .int .i64 0]) Try.zeroValue43 rfl) ?_
  rintro _ _ ⟨b4, rfl, rfl⟩
  refine O_en (e_storeN (vs := [_, _]) Try.sizeOf43 rfl rfl rfl (by repeat (first | exact Upd.here | apply Upd.there)) rfl (by simp only [setAll, List.setIfInBounds_toArray, List.set_cons_succ, List.set_cons_zero, Nat.reduceAdd, Nat.zero_add] <;> rfl)) ?_
  rintro _ _ ⟨rfl, rfl⟩
  refine O_qs (q_assign rfl) ?_
  refine O_nil ?_
  refine W_seq ?_
  refine W_seq ?_
  refine W_reg rfl ?_
  refine O_qs (q_move rfl) ?_
  refine O_nil ?_
  refine W_cond rfl ?_ ?_
  · intro hc
    have h0 : ¬ h.slot = 0 := by simpa using hc
    refine W_reg rfl ?_
    refine O_qs (q_move rfl) ?_
    refine O_qs (q_build rfl (bld_43 (cs := [_, _]) rfl)) ?_
    refine O_qs (q_nil rfl) ?_
    refine O_qs (q_fa fa_117_3 rfl) ?_
    refine O_en (e_storeN (vs := [_, _]) Try.sizeOf43 rfl rfl rfl (by repeat (first | exact Upd.here | apply Upd.there)) rfl (by simp only [setAll, List.setIfInBounds_toArray, List.set_cons_succ, List.set_cons_zero, Nat.reduceAdd, Nat.zero_add] <;> rfl)) ?_
    rintro _ _ ⟨rfl, rfl⟩
    refine O_nil ?_
    refine W_seq ?_
    refine W_reg rfl ?_
    refine O_qs (q_loadN (vs := [_, _]) Try.isAgg43 Try.sizeOf43 rfl (rd_range (by repeat (first | exact List.Mem.head _ | apply List.Mem.tail)) rfl)) ?_
    refine O_qs (q_move rfl) ?_
    refine O_en (e_storeN (vs := [_, _]) Try.sizeOf43 rfl rfl rfl (by repeat (first | exact Upd.here | apply Upd.there)) rfl (by simp only [setAll, List.setIfInBounds_toArray, List.set_cons_succ, List.set_cons_zero, Nat.reduceAdd, Nat.zero_add] <;> rfl)) ?_
    rintro _ _ ⟨rfl, rfl⟩
    refine O_qs (q_assign rfl) ?_
    refine O_nil ?_
    refine W_ret ?_
    refine resL (c0 := [coreA cb qb x e ⟨0, 0⟩ r]) rfl (.cell (us := [_, _]) Try.isAgg43 Try.sizeOf43 rfl (rd_range (by repeat (first | exact List.Mem.head _ | apply List.Mem.tail)) rfl) (.tmp rfl .nil)) (by repeat (first | exact Pick.nil | exact Take.here | apply Pick.cons | apply Take.there)) rfl ?_
    rw [if_neg h0]
    exact ⟨rfl, rfl⟩
  · intro hc
    have h0 : h.slot = 0 := by simpa using hc
    refine W_skip ?_
    refine W_seq ?_
    refine W_reg rfl ?_
    refine O_qs (q_loadN (vs := [_, _]) Try.isAgg43 Try.sizeOf43 rfl (rd_range (by repeat (first | exact List.Mem.head _ | apply List.Mem.tail)) rfl)) ?_
    refine O_qs (q_move rfl) ?_
    refine O_en (e_storeN (vs := [_, _]) Try.sizeOf43 rfl rfl rfl (by repeat (first | exact Upd.here | apply Upd.there)) rfl (by simp only [setAll, List.setIfInBounds_toArray, List.set_cons_succ, List.set_cons_zero, Nat.reduceAdd, Nat.zero_add] <;> rfl)) ?_
    rintro _ _ ⟨rfl, rfl⟩
    refine O_qs (q_assign rfl) ?_
    refine O_nil ?_
    refine W_ret ?_
    refine resL (c0 := [coreA cb qb x e h r]) rfl (.cell (us := [_, _]) Try.isAgg43 Try.sizeOf43 rfl (rd_range (by repeat (first | exact List.Mem.head _ | apply List.Mem.tail)) rfl) (.tmp rfl .nil)) (by repeat (first | exact Pick.nil | exact Take.here | apply Pick.cons | apply Take.there)) rfl ?_
    rw [if_pos h0]
    exact ⟨rfl, rfl⟩

theorem core_Drop (B : World) (cb qb : Nat) (x : Conf) (e : Int) (h : Who) (r : Int) (R : Atom) (v : Value) (ring : List SL.Entry) (k hd T : Nat) (L : List SL.Entry) (hq : QS R v ring k hd T L) (hT : T + 1 ≤ 1073741824) :
    Ctr Try.prog 51 [ptr cb] B [coreA cb qb x e h r, qraw qb v hd L.length, R]
      (fun u c => ∃ R' v' ring' k' hd', QS R' v' ring' k' hd' (T + 1) (if h.slot = 0 then L else L ++ [⟨h.slot, 0, h.id⟩]) ∧ u = .tuple #[] ∧ c = [coreA cb qb x e (if h.slot = 0 then h else ⟨0, 0⟩) r, qraw qb v' hd' (if h.slot = 0 then L else L ++ [⟨h.slot, 0, h.id⟩]).length, R']) := by
  refine Ctr.intro (n := 21) Try.func51 rfl Try.ntmps51 (Nat.le_of_ble_eq_true rfl) ?_
  refine W_seq ?_
  refine W_reg rfl ?_
  refine O_qs (q_move rfl) ?_
  refine O_es (e_cf Try.call68 rfl (fun wd hwd => (core_Take _ cb qb x e h r)) (by repeat (first | exact Pick.nil | exact Take.here | apply Pick.cons | apply Take.there))) ?_
  rintro _ _ ⟨_, ⟨rfl, rfl⟩, rfl⟩
  refine O_qs (q_move rfl) ?_
  refine O_qs (q_extract rfl rfl) ?_
  refine O_qs (q_extract rfl rfl) ?_
  refine O_es (e_alloc (cs := #[.int .i64 0, .int .i64 0]) Try.zeroValue43 rfl) ?_
  rintro _ _ ⟨b2, rfl, rfl⟩
  refine O_en (e_storeN (vs := [_, _]) Try.sizeOf43 rfl rfl rfl (by repeat (first | exact Upd.here | apply Upd.there)) rfl (by simp only [setAll, List.setIfInBounds_toArray, List.set_cons_succ, List.set_cons_zero, Nat.reduceAdd, Nat.zero_add] <;> rfl)) ?_
  rintro _ _ ⟨rfl, rfl⟩
  refine O_qs (q_assign rfl) ?_
  refine O_nil ?_
  refine W_seq ?_
  refine W_reg rfl ?_
  refine O_qs (q_move rfl) ?_
  refine O_nil ?_
  refine W_cond rfl ?_ ?_
  · intro hc
    have h0 : ¬ h.slot = 0 := by simpa using hc
    refine W_draw [[], [0], [0, 1], [0, 1, 2], [], [4], [], [6], [4, 5, 6, 7], [4, 5, 6, 7, 8], [0, 1, 2, 3, 4, 5, 6, 7, 8, 9]] rfl rfl rfl ?_
    refine V.qs 0 rfl rfl (q_move rfl) ?_
    refine V.qs 1 rfl rfl (q_nil rfl) ?_
    refine V.qs 2 rfl rfl (q_fa fa_117_2 rfl) ?_
    refine V.qs 3 rfl rfl (q_load Try.isAgg53 rfl (rd_chunk (by repeat (first | exact List.Mem.head _ | apply List.Mem.tail)) rfl)) ?_
    refine V.qs 4 rfl rfl (q_fa fa_43_0 rfl) ?_
    refine V.qs 5 rfl rfl (q_load Try.isAgg3 rfl (rd_chunk (by repeat (first | exact List.Mem.head _ | apply List.Mem.tail)) rfl)) ?_
    refine V.qs 6 rfl rfl (q_fa fa_43_1 rfl) ?_
    refine V.qs 7 rfl rfl (q_load Try.isAgg3 rfl (rd_chunk (by repeat (first | exact List.Mem.head _ | apply List.Mem.tail)) rfl)) ?_
    refine V.qs 8 rfl rfl (q_build rfl (bld_62 (cs := [_, _, _]) rfl)) ?_
    refine V.e1s 9 [3, 2, 1, 0] rfl rfl rfl (e_bslice (zl := [.int .i64 0, .int .i64 0, .int .i64 0]) (cs := [_, _, _]) Try.runUnderlying52 Try.sizeOf62 Try.zeroValue62 rfl (by kernel_rfl) rfl rfl) ?_
    rintro _ _ ⟨b19, rfl, rfl⟩
    refine ⟨st rfl rfl (q_load Try.isAgg53 rfl (rd_chunk (by repeat (first | exact List.Mem.head _ | apply List.Mem.tail)) rfl)) (st rfl rfl (q_fa fa_117_2 rfl) (st rfl rfl (q_nil rfl) (st rfl rfl (q_move rfl) (st_nil)))), ?_⟩
    refine V.e1s 10 [] rfl rfl rfl (e_cf Try.call89 rfl (fun wd hwd => (queue_Push _ qb R v ring k hd T L _ _ [⟨h.slot, 0, h.id⟩] hq (.inr ⟨b19, 1, #[.int .i64 h.slot, .int .i64 0, .int .i64 h.id], rfl, rfl, Nat.le_refl _, by decide, rfl, rfl⟩) (by simpa using hT))) (by repeat (first | exact Pick.nil | exact Take.here | apply Pick.cons | apply Take.there))) ?_
    rintro _ _ ⟨_, ⟨R', v', ring', k', hd', hq', rfl, rfl⟩, rfl⟩
    refine ⟨st_nil, ?_⟩
    refine V.fin rfl ?_
    refine res0 (c0 := [coreA cb qb x e _ r, qraw qb v' hd' (L ++ [(⟨h.slot, 0, h.id⟩ : SL.Entry)]).length, R']) rfl (by repeat (first | exact Pick.nil | exact Take.here | apply Pick.cons | apply Take.there)) rfl ?_
    rw [if_neg h0, if_neg h0]
    exact ⟨R', v', ring', k', hd', hq', rfl, rfl⟩
  · intro hc
    have h0 : h.slot = 0 := by simpa using hc
    refine W_skip ?_
    refine res0 (c0 := [coreA cb qb x e _ r, qraw qb v hd L.length, R]) rfl (by repeat (first | exact Pick.nil | exact Take.here | apply Pick.cons | apply Take.there)) rfl ?_
    rw [if_pos h0, if_pos h0]
    exact ⟨R, v, ring, k, hd, hq.mono (by omega), rfl, rfl⟩
end Go.Proofs.Ytaphhhnnplljdaa
