/-
  Walks: the core.
-/
import Derived.Test.YtbfplncdmbjjhaaGreatP
import Derived.Test.YtbfplncdmbjjhaaGreatQ
set_option linter.unusedSimpArgs false
set_option linter.unusedVariables false
namespace Go.Proofs.YtbfplncdmbjjhaaGreat
open Go Go.SL

abbrev coreA (cb qb : Nat) (x : Conf) (e : Int) (h : Who) (r : Int) : Atom :=
  [(cb, .cells #[.int .i64 x.kind, .int .i64 x.slots, .int .i64 x.buckets, .int .i64 x.height, .int .i64 x.limit, .int .i64 e, ptr qb, .int .i64 h.slot, .int .i64 h.id, .int .i64 r] 122 (0, 0))]

/-- A word as an epoch. -/
def epw (w : Int) : Int := if w < 9223372036854775808 then w else 0

theorem core_New (B : World) (x : Conf) : Ctr Tryz.prog 10 [x.v] B []
    (fun u c => (x.err ≠ 0 ∧ u = .pointer none ∧ c = []) ∨ (x.err = 0 ∧ ∃ cb qb R v ring k h, QS R v ring k h 0 [] ∧ u = ptr cb ∧ c = [coreA cb qb x 0 ⟨0, 0⟩ 0, qraw qb v h 0, R])) := by
  refine Ctr.intro (n := 10) Tryz.func10 rfl Tryz.ntmps10 (Nat.le_of_ble_eq_true rfl) ?_
  refine W_seq ?_
  refine W_reg rfl ?_
  refine O_es (e_box (cs := #[_, _, _, _, _]) rfl rfl) ?_
  rintro _ _ ⟨b1, rfl, rfl⟩
  refine O_qs (q_assign rfl) ?_
  refine O_nil ?_
  refine W_seq ?_
  refine W_seq ?_
  refine W_reg rfl ?_
  refine O_qs (q_loadN (vs := [_, _, _, _, _]) Tryz.isAgg38 Tryz.sizeOf38 rfl (rd_range (by repeat (first | exact List.Mem.head _ | apply List.Mem.tail)) rfl)) ?_
  refine O_qs (q_cf Tryz.call59 rfl (fun wd hwd => (conf_Check _ x)) (by repeat (first | exact Pick.nil | exact Take.here | apply Pick.cons | apply Take.there))) ?_
  refine O_qs (q_neq rfl rfl) ?_
  refine O_nil ?_
  refine W_cond rfl ?_ ?_
  · intro hc
    have he : x.err ≠ 0 := by simpa using hc
    refine W_seq ?_
    refine W_reg rfl ?_
    refine O_qs (q_assign rfl) ?_
    refine O_nil ?_
    refine W_ret ?_
    refine res1 (c0 := []) rfl rfl (by repeat (first | exact Pick.nil | exact Take.here | apply Pick.cons | apply Take.there)) rfl ?_
    exact .inl ⟨he, rfl, rfl⟩
  · intro hc
    have he : x.err = 0 := by simpa using hc
    refine W_skip ?_
    refine W_seq ?_
    refine W_draw [[], [], [0, 1], [0, 1, 2], [0, 1, 2, 3]] rfl rfl rfl ?_
    refine V.qs 0 rfl rfl (q_loadN (vs := [_, _, _, _, _]) Tryz.isAgg38 Tryz.sizeOf38 rfl (rd_range (by repeat (first | exact List.Mem.head _ | apply List.Mem.tail)) rfl)) ?_
    refine V.e1s 1 [0] rfl rfl rfl (e_cf Tryz.call60 rfl (fun wd hwd => (queue_New _)) (by repeat (first | exact Pick.nil | exact Take.here | apply Pick.cons | apply Take.there))) ?_
    rintro _ _ ⟨_, ⟨qb, R, v, ring, k, h, hq, rfl, rfl⟩, rfl⟩
    refine ⟨st rfl rfl (q_loadN (vs := [_, _, _, _, _]) Tryz.isAgg38 Tryz.sizeOf38 rfl (rd_range (by repeat (first | exact List.Mem.head _ | apply List.Mem.tail)) rfl)) (st_nil), ?_⟩
    refine V.qs 2 rfl rfl (q_build rfl (bld_122 (cs := [_, _, _, _, _, _, _, _, _, _]) rfl)) ?_
    refine V.e1s 3 [] rfl rfl rfl (e_box (cs := #[_, _, _, _, _, _, _, _, _, _]) rfl rfl) ?_
    rintro _ _ ⟨b9, rfl, rfl⟩
    refine ⟨st_nil, ?_⟩
    refine V.qs 4 rfl rfl (q_assign rfl) ?_
    refine V.fin rfl ?_
    refine W_ret ?_
    refine res1 (c0 := [[(b9, _)], qraw qb v h 0, R]) rfl rfl (by repeat (first | exact Pick.nil | exact Take.here | apply Pick.cons | apply Take.there)) rfl ?_
    exact .inr ⟨he, b9, qb, R, v, ring, k, h, hq, rfl, rfl⟩

theorem core_Conf (B : World) (cb qb : Nat) (x : Conf) (e : Int) (h : Who) (r : Int) : Ctr Tryz.prog 82 [ptr cb] B [coreA cb qb x e h r] (fun u c => u = x.v ∧ c = [coreA cb qb x e h r]) := by
  refine Ctr.intro (n := 10) Tryz.func82 rfl Tryz.ntmps82 (Nat.le_of_ble_eq_true rfl) ?_
  refine W_seq ?_
  refine W_reg rfl ?_
  refine O_es (e_alloc (cs := #[.int .i64 0, .int .i64 0, .int .i64 0, .int .i64 0, .int .i64 0]) Tryz.zeroValue38 rfl) ?_
  rintro _ _ ⟨b2, rfl, rfl⟩
  refine O_nil ?_
  refine W_seq ?_
  refine W_seq ?_
  refine W_reg rfl ?_
  refine O_qs (q_move rfl) ?_
  refine O_qs (q_eqnil Tryz.runUnderlying35 rfl rfl) ?_
  refine O_nil ?_
  refine W_false rfl ?_
  refine W_skip ?_
  refine W_seq ?_
  refine W_reg rfl ?_
  refine O_qs (q_move rfl) ?_
  refine O_qs (q_nil rfl) ?_
  refine O_qs (q_fa fa_122_0 rfl) ?_
  refine O_qs (q_loadN (vs := [_, _, _, _, _]) Tryz.isAgg38 Tryz.sizeOf38 rfl (rd_range (by repeat (first | exact List.Mem.head _ | apply List.Mem.tail)) rfl)) ?_
  refine O_en (e_storeN (vs := [_, _, _, _, _]) Tryz.sizeOf38 rfl rfl rfl (by repeat (first | exact Upd.here | apply Upd.there)) rfl (by simp only [setAll, List.setIfInBounds_toArray, List.set_cons_succ, List.set_cons_zero, Nat.reduceAdd, Nat.zero_add] <;> rfl)) ?_
  rintro _ _ ⟨rfl, rfl⟩
  refine O_nil ?_
  refine W_ret ?_
  refine resL (c0 := [coreA cb qb x e h r]) rfl (.cell (us := [_, _, _, _, _]) Tryz.isAgg38 Tryz.sizeOf38 rfl (rd_range (by repeat (first | exact List.Mem.head _ | apply List.Mem.tail)) rfl) .nil) (by repeat (first | exact Pick.nil | exact Take.here | apply Pick.cons | apply Take.there)) rfl ?_
  exact ⟨rfl, rfl⟩

theorem core_Epoch (B : World) (cb qb : Nat) (x : Conf) (e : Int) (h : Who) (r : Int) : Ctr Tryz.prog 31 [ptr cb] B [coreA cb qb x e h r] (fun u c => u = .int .i64 e ∧ c = [coreA cb qb x e h r]) := by
  refine Ctr.intro (n := 9) Tryz.func31 rfl Tryz.ntmps31 (Nat.le_of_ble_eq_true rfl) ?_
  refine W_seq ?_
  refine W_reg rfl ?_
  refine O_qs (q_assign rfl) ?_
  refine O_nil ?_
  refine W_seq ?_
  refine W_seq ?_
  refine W_reg rfl ?_
  refine O_qs (q_move rfl) ?_
  refine O_qs (q_eqnil Tryz.runUnderlying35 rfl rfl) ?_
  refine O_nil ?_
  refine W_false rfl ?_
  refine W_skip ?_
  refine W_seq ?_
  refine W_reg rfl ?_
  refine O_qs (q_move rfl) ?_
  refine O_qs (q_nil rfl) ?_
  refine O_qs (q_fa fa_122_1 rfl) ?_
  refine O_qs (q_load Tryz.isAgg3 rfl (rd_chunk (by repeat (first | exact List.Mem.head _ | apply List.Mem.tail)) rfl)) ?_
  refine O_qs (q_assign rfl) ?_
  refine O_nil ?_
  refine W_ret ?_
  refine res1 (c0 := [coreA cb qb x e h r]) rfl rfl (by repeat (first | exact Pick.nil | exact Take.here | apply Pick.cons | apply Take.there)) rfl ?_
  exact ⟨rfl, rfl⟩

theorem core_Rolls (B : World) (cb qb : Nat) (x : Conf) (e : Int) (h : Who) (r : Int) : Ctr Tryz.prog 30 [ptr cb] B [coreA cb qb x e h r] (fun u c => u = .int .i64 r ∧ c = [coreA cb qb x e h r]) := by
  refine Ctr.intro (n := 9) Tryz.func30 rfl Tryz.ntmps30 (Nat.le_of_ble_eq_true rfl) ?_
  refine W_seq ?_
  refine W_reg rfl ?_
  refine O_qs (q_assign rfl) ?_
  refine O_nil ?_
  refine W_seq ?_
  refine W_seq ?_
  refine W_reg rfl ?_
  refine O_qs (q_move rfl) ?_
  refine O_qs (q_eqnil Tryz.runUnderlying35 rfl rfl) ?_
  refine O_nil ?_
  refine W_false rfl ?_
  refine W_skip ?_
  refine W_seq ?_
  refine W_reg rfl ?_
  refine O_qs (q_move rfl) ?_
  refine O_qs (q_nil rfl) ?_
  refine O_qs (q_fa fa_122_4 rfl) ?_
  refine O_qs (q_load Tryz.isAgg3 rfl (rd_chunk (by repeat (first | exact List.Mem.head _ | apply List.Mem.tail)) rfl)) ?_
  refine O_qs (q_assign rfl) ?_
  refine O_nil ?_
  refine W_ret ?_
  refine res1 (c0 := [coreA cb qb x e h r]) rfl rfl (by repeat (first | exact Pick.nil | exact Take.here | apply Pick.cons | apply Take.there)) rfl ?_
  exact ⟨rfl, rfl⟩

theorem core_epoch (B : World) (A : Atom) (wb : Nat) (k : Count) (l : List (Plc × Int)) (hA : PlainIs A wb l k) :
    Ctr Tryz.prog 61 [wI wb] B [A] (fun u c => ∃ A', PlainIs A' wb l { k with loads := inc k.loads } ∧ u = .int .i64 (epw (mem l epochP)) ∧ c = [A']) := by
  have hm := hA.wds.mem epochP
  refine Ctr.intro (n := 18) Tryz.func61 rfl Tryz.ntmps61 (Nat.le_of_ble_eq_true rfl) ?_
  refine W_seq ?_
  refine W_reg rfl ?_
  refine O_qs (q_assign rfl) ?_
  refine O_nil ?_
  refine W_seq ?_
  refine W_draw [[], [], [1], [0], [0, 3], [0, 3, 4], [0, 1, 2, 3, 4, 5], [0, 1, 2, 3, 4, 5, 6], [0, 1, 2, 3, 4, 5, 6, 7], [0, 1, 2, 3, 4, 5, 6, 7, 8], [0, 1, 2, 3, 4, 5, 6, 7, 8, 9], [0, 1, 2, 3, 4, 5, 6, 7, 8, 9], [0, 1, 2, 3, 4, 5, 6, 7, 8, 9, 10], [0, 1, 2, 3, 4, 5, 6, 7, 8, 9, 10, 11, 12]] rfl rfl rfl ?_
  refine V.qs 0 rfl rfl (q_move rfl) ?_
  refine V.qs 3 rfl rfl (q_mkF rfl rfl) ?_
  refine V.qs 4 rfl rfl (q_nilM (by intro w; kernel_rfl) rfl) ?_
  refine V.qs 5 rfl rfl (q_move rfl) ?_
  refine V.qs 1 rfl rfl (q_cf Tryz.call62 rfl (fun wd hwd => (place_Epoch _)) (by repeat (first | exact Pick.nil | exact Take.here | apply Pick.cons | apply Take.there))) ?_
  refine V.qs 2 rfl rfl (q_build rfl (bld_54 (cs := [_, _, _, _]) rfl)) ?_
  refine V.e1s 6 [] rfl rfl rfl (e_inv (f := 172) (by intro args w; kernel_rfl) rfl rfl (fun wd hwd => (world_Load _ A wb k l ⟨epochP, 0⟩ hA)) (by repeat (first | exact Pick.nil | exact Take.here | apply Pick.cons | apply Take.there))) ?_
  rintro _ _ ⟨_, ⟨A', hA', rfl, rfl⟩, rfl⟩
  refine ⟨st_nil, ?_⟩
  refine V.qs 7 rfl rfl (q_field (fd_69_0 rfl) rfl) ?_
  refine V.qs 8 rfl rfl (q_cf Tryz.call95 rfl (fun wd hwd => (field_Int _ (mem l epochP) hm)) (by repeat (first | exact Pick.nil | exact Take.here | apply Pick.cons | apply Take.there))) ?_
  refine V.qs 9 rfl rfl (q_move rfl) ?_
  refine V.qs 10 rfl rfl (q_extract rfl rfl) ?_
  refine V.qs 11 rfl rfl (q_extract rfl rfl) ?_
  refine V.qs 12 rfl rfl (q_assign rfl) ?_
  refine V.qs 13 rfl rfl (q_assign rfl) ?_
  refine V.fin rfl ?_
  refine W_seq ?_
  refine W_reg rfl ?_
  refine O_qs (q_move rfl) ?_
  refine O_qs (q_assign rfl) ?_
  refine O_nil ?_
  refine W_ret ?_
  refine res1 (c0 := [A']) rfl rfl (by repeat (first | exact Pick.nil | exact Take.here | apply Pick.cons | apply Take.there)) rfl ?_
  exact ⟨A', hA', rfl, rfl⟩

theorem core_Check (B : World) (cb qb : Nat) (x : Conf) (e : Int) (h : Who) (r : Int) (A : Atom) (wb : Nat) (k : Count) (l : List (Plc × Int)) (hA : PlainIs A wb l k) :
    Ctr Tryz.prog 12 [ptr cb, wI wb] B [coreA cb qb x e h r, A] (fun u c => ∃ A', PlainIs A' wb l { k with loads := inc k.loads } ∧ u = .tuple #[] ∧ c = [coreA cb qb x (epw (mem l epochP)) h r, A']) := by
  refine Ctr.intro (n := 11) Tryz.func12 rfl Tryz.ntmps12 (Nat.le_of_ble_eq_true rfl) ?_
  refine W_seq ?_
  refine W_reg rfl ?_
  refine O_qs (q_move rfl) ?_
  refine O_qs (q_nenil Tryz.runUnderlying35 rfl rfl) ?_
  refine O_nil ?_
  refine W_true rfl ?_
  refine W_reg rfl ?_
  refine O_qs (q_move rfl) ?_
  refine O_qs (q_move rfl) ?_
  refine O_es (e_cf Tryz.call61 rfl (fun wd hwd => (core_epoch _ A wb k l hA)) (by repeat (first | exact Pick.nil | exact Take.here | apply Pick.cons | apply Take.there))) ?_
  rintro _ _ ⟨_, ⟨A', hA', rfl, rfl⟩, rfl⟩
  refine O_qs (q_nil rfl) ?_
  refine O_qs (q_fa fa_122_1 rfl) ?_
  refine O_en (e_store Tryz.sizeOf3 rfl rfl rfl (by repeat (first | exact Upd.here | apply Upd.there)) rfl (by simp only [setAll, List.setIfInBounds_toArray, List.set_cons_succ, List.set_cons_zero, Nat.reduceAdd, Nat.zero_add] <;> rfl)) ?_
  rintro _ _ ⟨rfl, rfl⟩
  refine O_nil ?_
  refine res0 (c0 := [coreA cb qb x (epw (mem l epochP)) h r, A']) rfl (by repeat (first | exact Pick.nil | exact Take.here | apply Pick.cons | apply Take.there)) rfl ?_
  exact ⟨A', hA', rfl, rfl⟩

theorem core_Valid (B : World) (cb qb : Nat) (x : Conf) (e : Int) (h : Who) (r : Int) (A : Atom) (wb : Nat) (k : Count) (l : List (Plc × Int)) (hA : PlainIs A wb l k) :
    Ctr Tryz.prog 67 [ptr cb, wI wb] B [coreA cb qb x e h r, A]
      (fun u c => ∃ A', PlainIs A' wb l { k with loads := inc k.loads } ∧ u = .bool (decide (mem l epochP = IntKind.u64.wrap e)) ∧ c = [coreA cb qb x e h (if mem l epochP = IntKind.u64.wrap e then r else inc r), A']) := by
  refine Ctr.intro (n := 32) Tryz.func67 rfl Tryz.ntmps67 (Nat.le_of_ble_eq_true rfl) ?_
  refine W_seq ?_
  refine W_reg rfl ?_
  refine O_qs (q_assign rfl) ?_
  refine O_nil ?_
  refine W_seq ?_
  refine W_seq ?_
  refine W_reg rfl ?_
  refine O_qs (q_move rfl) ?_
  refine O_qs (q_eqnil Tryz.runUnderlying35 rfl rfl) ?_
  refine O_nil ?_
  refine W_false rfl ?_
  refine W_skip ?_
  refine W_seq ?_
  refine W_draw [[], [], [1], [0], [0, 3], [0, 3, 4], [0, 1, 2, 3, 4, 5], [0, 1, 2, 3, 4, 5, 6], [], [8], [8, 9], [8, 9, 10], [8, 9, 10, 11], [0, 1, 2, 3, 4, 5, 6, 7, 8, 9, 10, 11, 12], [0, 1, 2, 3, 4, 5, 6, 7, 8, 9, 10, 11, 12, 13]] rfl rfl rfl ?_
  refine V.qs 0 rfl rfl (q_move rfl) ?_
  refine V.qs 3 rfl rfl (q_mkF rfl rfl) ?_
  refine V.qs 4 rfl rfl (q_nilM (by intro w; kernel_rfl) rfl) ?_
  refine V.qs 5 rfl rfl (q_move rfl) ?_
  refine V.qs 8 rfl rfl (q_move rfl) ?_
  refine V.qs 9 rfl rfl (q_nil rfl) ?_
  refine V.qs 10 rfl rfl (q_fa fa_122_1 rfl) ?_
  refine V.qs 11 rfl rfl (q_load Tryz.isAgg3 rfl (rd_chunk (by repeat (first | exact List.Mem.head _ | apply List.Mem.tail)) rfl)) ?_
  refine V.qs 12 rfl rfl (q_conv (c := IntKind.u64.wrap e) Tryz.runUnderlying3 Tryz.runUnderlying23 rfl rfl) ?_
  refine V.qs 1 rfl rfl (q_cf Tryz.call62 rfl (fun wd hwd => (place_Epoch _)) (by repeat (first | exact Pick.nil | exact Take.here | apply Pick.cons | apply Take.there))) ?_
  refine V.qs 2 rfl rfl (q_build rfl (bld_54 (cs := [_, _, _, _]) rfl)) ?_
  refine V.e1s 6 [12, 11, 10, 9, 8] rfl rfl rfl (e_inv (f := 172) (by intro args w; kernel_rfl) rfl rfl (fun wd hwd => (world_Load _ A wb k l ⟨epochP, 0⟩ hA)) (by repeat (first | exact Pick.nil | exact Take.here | apply Pick.cons | apply Take.there))) ?_
  rintro _ _ ⟨_, ⟨A', hA', rfl, rfl⟩, rfl⟩
  refine ⟨st rfl rfl (q_conv (c := IntKind.u64.wrap e) Tryz.runUnderlying3 Tryz.runUnderlying23 rfl rfl) (st rfl rfl (q_load Tryz.isAgg3 rfl (rd_chunk (by repeat (first | exact List.Mem.head _ | apply List.Mem.tail)) rfl)) (st rfl rfl (q_fa fa_122_1 rfl) (st rfl rfl (q_nil rfl) (st rfl rfl (q_move rfl) (st_nil))))), ?_⟩
  refine V.qs 7 rfl rfl (q_field (fd_69_0 rfl) rfl) ?_
  refine V.qs 13 rfl rfl (q_eql rfl rfl) ?_
  refine V.qs 14 rfl rfl (q_assign rfl) ?_
  refine V.fin rfl ?_
  refine W_seq ?_
  refine W_seq ?_
  refine W_reg rfl ?_
  refine O_qs (q_move rfl) ?_
  refine O_qs (q_not rfl) ?_
  refine O_nil ?_
  refine W_cond rfl ?_ ?_
  · intro hc
    have he : ¬ mem l epochP = IntKind.u64.wrap e := by simpa using hc
    refine W_reg rfl ?_
    refine O_qs (q_move rfl) ?_
    refine O_qs (q_nil rfl) ?_
    refine O_qs (q_fa fa_122_4 rfl) ?_
    refine O_qs (q_load Tryz.isAgg3 rfl (rd_chunk (by repeat (first | exact List.Mem.head _ | apply List.Mem.tail)) rfl)) ?_
    refine O_qs (q_add (c := inc r) rfl rfl rfl) ?_
    refine O_qs (q_nil rfl) ?_
    refine O_qs (q_fa fa_122_4 rfl) ?_
    refine O_en (e_store Tryz.sizeOf3 rfl rfl rfl (by repeat (first | exact Upd.here | apply Upd.there)) rfl (by simp only [setAll, List.setIfInBounds_toArray, List.set_cons_succ, List.set_cons_zero, Nat.reduceAdd, Nat.zero_add] <;> rfl)) ?_
    rintro _ _ ⟨rfl, rfl⟩
    refine O_nil ?_
    refine W_seq ?_
    refine W_reg rfl ?_
    refine O_qs (q_move rfl) ?_
    refine O_qs (q_assign rfl) ?_
    refine O_nil ?_
    refine W_ret ?_
    refine res1 (c0 := [coreA cb qb x e h (inc r), A']) rfl rfl (by repeat (first | exact Pick.nil | exact Take.here | apply Pick.cons | apply Take.there)) rfl ?_
    exact ⟨A', hA', rfl, by rw [if_neg he]⟩
  · intro hc
    have he : mem l epochP = IntKind.u64.wrap e := by simpa using hc
    refine W_skip ?_
    refine W_seq ?_
    refine W_reg rfl ?_
    refine O_qs (q_move rfl) ?_
    refine O_qs (q_assign rfl) ?_
    refine O_nil ?_
    refine W_ret ?_
    refine res1 (c0 := [coreA cb qb x e h r, A']) rfl rfl (by repeat (first | exact Pick.nil | exact Take.here | apply Pick.cons | apply Take.there)) rfl ?_
    exact ⟨A', hA', rfl, by rw [if_pos he]⟩

def holdErr (x : Conf) (h y : Who) : Int := if h.slot ≠ 0 then 10 else if y.slot < 1 ∨ x.slots < y.slot then 1 else 0

theorem core_To (B : World) (cb qb : Nat) (x : Conf) (e : Int) (h : Who) (r : Int) (y : Who) :
    Ctr Tryz.prog 96 [ptr cb, y.v] B [coreA cb qb x e h r] (fun u c => u = (Val.mk (lword false y.slot e) y.id false).v ∧ c = [coreA cb qb x e h r]) := by
  refine Ctr.intro (n := 18) Tryz.func96 rfl Tryz.ntmps96 (Nat.le_of_ble_eq_true rfl) ?_
  refine W_seq ?_
  refine W_reg rfl ?_
  refine O_es (e_box (cs := #[_, _]) rfl rfl) ?_
  rintro _ _ ⟨b3, rfl, rfl⟩
  refine O_es (e_alloc (cs := #[.int .u64 0, .int .i64 0, .bool false]) Tryz.zeroValue69 rfl) ?_
  rintro _ _ ⟨b4, rfl, rfl⟩
  refine O_nil ?_
  refine W_seq ?_
  refine W_seq ?_
  refine W_reg rfl ?_
  refine O_qs (q_move rfl) ?_
  refine O_qs (q_eqnil Tryz.runUnderlying35 rfl rfl) ?_
  refine O_nil ?_
  refine W_false rfl ?_
  refine W_skip ?_
  refine W_seq ?_
  refine W_draw [[], [0], [], [2], [2, 3], [2, 3, 4], [0, 1, 2, 3, 4, 5], [], [7], [0, 1, 2, 3, 4, 5, 6, 7, 8], [0, 1, 2, 3, 4, 5, 6, 7, 8, 9]] rfl rfl rfl ?_
  refine V.qs 0 rfl rfl (q_fa fa_65_0 rfl) ?_
  refine V.qs 1 rfl rfl (q_load Tryz.isAgg3 rfl (rd_chunk (by repeat (first | exact List.Mem.head _ | apply List.Mem.tail)) rfl)) ?_
  refine V.qs 2 rfl rfl (q_move rfl) ?_
  refine V.qs 3 rfl rfl (q_nil rfl) ?_
  refine V.qs 4 rfl rfl (q_fa fa_122_1 rfl) ?_
  refine V.qs 5 rfl rfl (q_load Tryz.isAgg3 rfl (rd_chunk (by repeat (first | exact List.Mem.head _ | apply List.Mem.tail)) rfl)) ?_
  refine V.qs 7 rfl rfl (q_fa fa_65_1 rfl) ?_
  refine V.qs 8 rfl rfl (q_load Tryz.isAgg3 rfl (rd_chunk (by repeat (first | exact List.Mem.head _ | apply List.Mem.tail)) rfl)) ?_
  refine V.qs 6 rfl rfl (q_cf Tryz.call114 rfl (fun wd hwd => (link_To _ y.slot e)) (by repeat (first | exact Pick.nil | exact Take.here | apply Pick.cons | apply Take.there))) ?_
  refine V.qs 9 rfl rfl (q_build rfl (bld_69 (cs := [_, _, _]) rfl)) ?_
  refine V.e1n 10 [] rfl rfl rfl (e_storeN (vs := [_, _, _]) Tryz.sizeOf69 rfl rfl rfl (by repeat (first | exact Upd.here | apply Upd.there)) rfl (by simp only [setAll, List.setIfInBounds_toArray, List.set_cons_succ, List.set_cons_zero, Nat.reduceAdd, Nat.zero_add] <;> rfl)) ?_
  rintro _ _ ⟨rfl, rfl⟩
  refine ⟨st_nil, ?_⟩
  refine V.fin rfl ?_
  refine W_ret ?_
  refine resL (c0 := [coreA cb qb x e h r]) rfl (.cell (us := [_, _, _]) Tryz.isAgg69 Tryz.sizeOf69 rfl (rd_range (by repeat (first | exact List.Mem.head _ | apply List.Mem.tail)) rfl) .nil) (by repeat (first | exact Pick.nil | exact Take.here | apply Pick.cons | apply Take.there)) rfl ?_
  exact ⟨rfl, rfl⟩

end Go.Proofs.YtbfplncdmbjjhaaGreat
