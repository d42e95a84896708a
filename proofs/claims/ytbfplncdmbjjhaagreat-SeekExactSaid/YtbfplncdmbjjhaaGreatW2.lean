/-
  Walks: structures, small functions of the references.
-/
import Derived.Test.YtbfplncdmbjjhaaGreatW1
import Derived.Test.YtbfplncdmbjjhaaGreatMod
set_option linter.unusedSimpArgs false
set_option linter.unusedVariables false
namespace Go.Proofs.YtbfplncdmbjjhaaGreat
open Go Go.SL

theorem field_Int (B : World) (w : Int) (h : 0 ≤ w ∧ w < 18446744073709551616) : Ctr Tryz.prog 95 [.int .u64 w] B [] (fun v c => v = .tuple #[.int .i64 (if w < 9223372036854775808 then w else 0), .bool (decide (w < 9223372036854775808))] ∧ c = []) := by
  have hw : IntKind.i64.wrap w = if w < 9223372036854775808 then w else w - 18446744073709551616 := by
    simp only [IntKind.wrap, IntKind.bits, IntKind.signed, Bool.true_and, ge_iff_le, decide_eq_true_eq]
    split <;> split <;> omega
  refine Ctr.intro (n := 10) Tryz.func95 rfl Tryz.ntmps95 (Nat.le_of_ble_eq_true rfl) ?_
  refine W_seq ?_
  refine W_reg rfl ?_
  refine O_qs (q_assign rfl) ?_
  refine O_qs (q_assign rfl) ?_
  refine O_nil ?_
  refine W_seq ?_
  refine W_reg rfl ?_
  refine O_qs (q_move rfl) ?_
  refine O_qs (q_conv Tryz.runUnderlying23 Tryz.runUnderlying3 hw rfl) ?_
  refine O_qs (q_assign rfl) ?_
  refine O_nil ?_
  refine W_seq ?_
  refine W_seq ?_
  refine W_reg rfl ?_
  refine O_qs (q_move rfl) ?_
  refine O_qs (q_lss rfl rfl) ?_
  refine O_nil ?_
  refine W_cond rfl ?_ ?_
  · intro hc
    refine W_seq ?_
    refine W_reg rfl ?_
    refine O_qs (q_assign rfl) ?_
    refine O_qs (q_assign rfl) ?_
    refine O_nil ?_
    refine W_ret ?_
    refine res2 (c0 := []) rfl rfl rfl (by repeat (first | exact Pick.nil | exact Take.here | apply Pick.cons | apply Take.there)) rfl ?_
    simp at hc
    have : ¬ w < 9223372036854775808 := by split at hc <;> omega
    simp [this]
  · intro hc
    refine W_skip ?_
    refine W_seq ?_
    refine W_reg rfl ?_
    refine O_qs (q_move rfl) ?_
    refine O_qs (q_assign rfl) ?_
    refine O_qs (q_assign rfl) ?_
    refine O_nil ?_
    refine W_ret ?_
    refine res2 (c0 := []) rfl rfl rfl (by repeat (first | exact Pick.nil | exact Take.here | apply Pick.cons | apply Take.there)) rfl ?_
    simp at hc
    have : w < 9223372036854775808 := by split at hc <;> omega
    simp [this]

theorem ref02_Is (B : World) (m : Bool) (s v : Int) : Ctr Tryz.prog 109 [.agg #[.bool m, .int .i64 s, .int .i64 v]] B [] (fun u c => u = .bool (lbool s v) ∧ c = []) := by
  refine Ctr.intro (n := 21) Tryz.func109 rfl Tryz.ntmps109 (Nat.le_of_ble_eq_true rfl) ?_
  refine W_seq ?_
  refine W_reg rfl ?_
  refine O_es (e_box (cs := #[_, _, _]) rfl rfl) ?_
  rintro _ _ ⟨b1, rfl, rfl⟩
  refine O_qs (q_assign rfl) ?_
  refine O_nil ?_
  refine W_seq ?_
  refine W_reg rfl ?_
  refine O_qs (q_fa fa_150_1 rfl) ?_
  refine O_qs (q_load Tryz.isAgg3 rfl (rd_chunk (by repeat (first | exact List.Mem.head _ | apply List.Mem.tail)) rfl)) ?_
  refine O_qs (q_geq rfl rfl) ?_
  refine O_qs (q_move rfl) ?_
  refine O_qs (QY.cond0 rfl rfl rfl (fun H => q_fa fa_150_1 rfl)) ?_
  refine O_qs (QY.cond0 rfl rfl rfl (fun H => q_load Tryz.isAgg3 (gvh rfl H) (rd_chunk (by repeat (first | exact List.Mem.head _ | apply List.Mem.tail)) rfl))) ?_
  refine O_qs (QY.cond0 rfl rfl rfl (fun H => q_lss (gvh rfl H) rfl)) ?_
  refine O_qs (q_and rfl rfl rfl) ?_
  refine O_qs (q_move rfl) ?_
  refine O_qs (QY.cond0 rfl rfl rfl (fun H => q_fa fa_150_2 rfl)) ?_
  refine O_qs (QY.cond0 rfl rfl rfl (fun H => q_load Tryz.isAgg3 (gvh rfl H) (rd_chunk (by repeat (first | exact List.Mem.head _ | apply List.Mem.tail)) rfl))) ?_
  refine O_qs (QY.cond0 rfl rfl rfl (fun H => q_geq (gvh rfl H) rfl)) ?_
  refine O_qs (q_and rfl rfl rfl) ?_
  refine O_qs (q_move rfl) ?_
  refine O_qs (QY.cond0 rfl rfl rfl (fun H => q_fa fa_150_2 rfl)) ?_
  refine O_qs (QY.cond0 rfl rfl rfl (fun H => q_load Tryz.isAgg3 (gvh rfl H) (rd_chunk (by repeat (first | exact List.Mem.head _ | apply List.Mem.tail)) rfl))) ?_
  refine O_qs (QY.cond0 rfl rfl rfl (fun H => q_lss (gvh rfl H) rfl)) ?_
  refine O_qs (q_and rfl rfl rfl) ?_
  refine O_qs (q_assign rfl) ?_
  refine O_nil ?_
  refine W_ret ?_
  refine res1 (c0 := []) rfl rfl (by repeat (first | exact Pick.nil | exact Take.here | apply Pick.cons | apply Take.there)) rfl ?_
  refine ⟨?_, rfl⟩
  unfold lbool
  congr 1
  rw [Bool.eq_iff_iff]
  simp
  omega

theorem ref02_Word (B : World) (mk : Bool) (s v : Int) : Ctr Tryz.prog 87 [.agg #[.bool mk, .int .i64 s, .int .i64 v]] B [] (fun u c => u = .int .u64 (lword mk s v) ∧ c = []) := by
  by_cases h : lbool s v = true
  · have hb : (0 ≤ s ∧ s ≤ 8388607) ∧ 0 ≤ v ∧ v ≤ 1099511627775 := by simp [lbool] at h; omega
    have hw : lword mk s v = v + s * 1099511627776 + (if mk then 9223372036854775808 else 0) := by unfold lword; rw [if_pos (by omega)]
    cases mk
    · refine Ctr.intro (n := 20) Tryz.func87 rfl Tryz.ntmps87 (Nat.le_of_ble_eq_true rfl) ?_
      refine W_seq ?_
      refine W_reg rfl ?_
      refine O_es (e_box (cs := #[_, _, _]) rfl rfl) ?_
      rintro _ _ ⟨b1, rfl, rfl⟩
      refine O_qs (q_assign rfl) ?_
      refine O_nil ?_
      refine W_seq ?_
      refine W_seq ?_
      refine W_reg rfl ?_
      refine O_qs (q_loadN (vs := [_, _, _]) Tryz.isAgg150 Tryz.sizeOf150 rfl (rd_range (by repeat (first | exact List.Mem.head _ | apply List.Mem.tail)) rfl)) ?_
      refine O_qs (q_cf Tryz.call109 rfl (fun wd hwd => ref02_Is _ false s v) (by repeat (first | exact Pick.nil | exact Take.here | apply Pick.cons | apply Take.there))) ?_
      refine O_qs (q_not rfl) ?_
      refine O_nil ?_
      refine W_fa rfl ((by simp [h])) ?_
      refine W_skip ?_
      refine W_seq ?_
      refine W_reg rfl ?_
      refine O_qs (q_fa fa_150_1 rfl) ?_
      refine O_qs (q_load Tryz.isAgg3 rfl (rd_chunk (by repeat (first | exact List.Mem.head _ | apply List.Mem.tail)) rfl)) ?_
      refine O_qs (q_conv Tryz.runUnderlying3 Tryz.runUnderlying23 (wu64 (by omega)) rfl) ?_
      refine O_qs (q_mul (wu64 (by omega)) rfl rfl) ?_
      refine O_qs (q_fa fa_150_2 rfl) ?_
      refine O_qs (q_load Tryz.isAgg3 rfl (rd_chunk (by repeat (first | exact List.Mem.head _ | apply List.Mem.tail)) rfl)) ?_
      refine O_qs (q_conv Tryz.runUnderlying3 Tryz.runUnderlying23 (wu64 (by omega)) rfl) ?_
      refine O_qs (q_add (wu64 (by omega)) rfl rfl) ?_
      refine O_qs (q_assign rfl) ?_
      refine O_nil ?_
      refine W_seq ?_
      refine W_seq ?_
      refine W_reg rfl ?_
      refine O_qs (q_fa fa_150_0 rfl) ?_
      refine O_qs (q_load Tryz.isAgg4 rfl (rd_chunk (by repeat (first | exact List.Mem.head _ | apply List.Mem.tail)) rfl)) ?_
      refine O_nil ?_
      refine W_false rfl ?_
      refine W_skip ?_
      refine W_seq ?_
      refine W_reg rfl ?_
      refine O_qs (q_move rfl) ?_
      refine O_qs (q_assign rfl) ?_
      refine O_nil ?_
      refine W_ret ?_
      refine res1 (c0 := []) rfl rfl (by repeat (first | exact Pick.nil | exact Take.here | apply Pick.cons | apply Take.there)) rfl ?_
      refine ⟨?_, rfl⟩
      rw [hw]
      congr 1
      simp
      omega
    · refine Ctr.intro (n := 20) Tryz.func87 rfl Tryz.ntmps87 (Nat.le_of_ble_eq_true rfl) ?_
      refine W_seq ?_
      refine W_reg rfl ?_
      refine O_es (e_box (cs := #[_, _, _]) rfl rfl) ?_
      rintro _ _ ⟨b1, rfl, rfl⟩
      refine O_qs (q_assign rfl) ?_
      refine O_nil ?_
      refine W_seq ?_
      refine W_seq ?_
      refine W_reg rfl ?_
      refine O_qs (q_loadN (vs := [_, _, _]) Tryz.isAgg150 Tryz.sizeOf150 rfl (rd_range (by repeat (first | exact List.Mem.head _ | apply List.Mem.tail)) rfl)) ?_
      refine O_qs (q_cf Tryz.call109 rfl (fun wd hwd => ref02_Is _ true s v) (by repeat (first | exact Pick.nil | exact Take.here | apply Pick.cons | apply Take.there))) ?_
      refine O_qs (q_not rfl) ?_
      refine O_nil ?_
      refine W_fa rfl ((by simp [h])) ?_
      refine W_skip ?_
      refine W_seq ?_
      refine W_reg rfl ?_
      refine O_qs (q_fa fa_150_1 rfl) ?_
      refine O_qs (q_load Tryz.isAgg3 rfl (rd_chunk (by repeat (first | exact List.Mem.head _ | apply List.Mem.tail)) rfl)) ?_
      refine O_qs (q_conv Tryz.runUnderlying3 Tryz.runUnderlying23 (wu64 (by omega)) rfl) ?_
      refine O_qs (q_mul (wu64 (by omega)) rfl rfl) ?_
      refine O_qs (q_fa fa_150_2 rfl) ?_
      refine O_qs (q_load Tryz.isAgg3 rfl (rd_chunk (by repeat (first | exact List.Mem.head _ | apply List.Mem.tail)) rfl)) ?_
      refine O_qs (q_conv Tryz.runUnderlying3 Tryz.runUnderlying23 (wu64 (by omega)) rfl) ?_
      refine O_qs (q_add (wu64 (by omega)) rfl rfl) ?_
      refine O_qs (q_assign rfl) ?_
      refine O_nil ?_
      refine W_seq ?_
      refine W_seq ?_
      refine W_reg rfl ?_
      refine O_qs (q_fa fa_150_0 rfl) ?_
      refine O_qs (q_load Tryz.isAgg4 rfl (rd_chunk (by repeat (first | exact List.Mem.head _ | apply List.Mem.tail)) rfl)) ?_
      refine O_nil ?_
      refine W_true rfl ?_
      refine W_reg rfl ?_
      refine O_qs (q_move rfl) ?_
      refine O_qs (q_add (wu64 (by omega)) rfl rfl) ?_
      refine O_qs (q_assign rfl) ?_
      refine O_nil ?_
      refine W_seq ?_
      refine W_reg rfl ?_
      refine O_qs (q_move rfl) ?_
      refine O_qs (q_assign rfl) ?_
      refine O_nil ?_
      refine W_ret ?_
      refine res1 (c0 := []) rfl rfl (by repeat (first | exact Pick.nil | exact Take.here | apply Pick.cons | apply Take.there)) rfl ?_
      refine ⟨?_, rfl⟩
      rw [hw]
      congr 1
      simp
      omega
  · have h' : lbool s v = false := by simpa using h
    refine Ctr.intro (n := 20) Tryz.func87 rfl Tryz.ntmps87 (Nat.le_of_ble_eq_true rfl) ?_
    refine W_seq ?_
    refine W_reg rfl ?_
    refine O_es (e_box (cs := #[_, _, _]) rfl rfl) ?_
    rintro _ _ ⟨b1, rfl, rfl⟩
    refine O_qs (q_assign rfl) ?_
    refine O_nil ?_
    refine W_seq ?_
    refine W_seq ?_
    refine W_reg rfl ?_
    refine O_qs (q_loadN (vs := [_, _, _]) Tryz.isAgg150 Tryz.sizeOf150 rfl (rd_range (by repeat (first | exact List.Mem.head _ | apply List.Mem.tail)) rfl)) ?_
    refine O_qs (q_cf Tryz.call109 rfl (fun wd hwd => ref02_Is _ mk s v) (by repeat (first | exact Pick.nil | exact Take.here | apply Pick.cons | apply Take.there))) ?_
    refine O_qs (q_not rfl) ?_
    refine O_nil ?_
    refine W_tr rfl ((by simp [h'])) ?_
    refine W_seq ?_
    refine W_reg rfl ?_
    refine O_qs (q_assign rfl) ?_
    refine O_nil ?_
    refine W_ret ?_
    refine res1 (c0 := []) rfl rfl (by repeat (first | exact Pick.nil | exact Take.here | apply Pick.cons | apply Take.there)) rfl ?_
    refine ⟨?_, rfl⟩
    unfold lword
    rw [if_neg]
    simp [lbool] at h'
    omega

def wslot (w : Int) : Int := w / 1099511627776 % 8388608
def wver (w : Int) : Int := w % 1099511627776

theorem ref02_Of (B : World) (w : Int) (h : 0 ≤ w ∧ w < 18446744073709551616) : Ctr Tryz.prog 101 [.int .u64 w] B [] (fun u c => u = .agg #[.bool (marked w), .int .i64 (wslot w), .int .i64 (wver w)] ∧ c = []) := by
  have e1 : w.tdiv 1099511627776 = w / 1099511627776 := Int.tdiv_eq_ediv_of_nonneg h.1
  have e2 : (w / 1099511627776).tmod 8388608 = wslot w := Int.tmod_eq_emod_of_nonneg (by omega)
  have e3 : w.tmod 1099511627776 = wver w := Int.tmod_eq_emod_of_nonneg h.1
  have b2 : 0 ≤ wslot w ∧ wslot w < 8388608 := by unfold wslot; omega
  have b3 : 0 ≤ wver w ∧ wver w < 1099511627776 := by unfold wver; omega
  refine Ctr.intro (n := 13) Tryz.func101 rfl Tryz.ntmps101 (Nat.le_of_ble_eq_true rfl) ?_
  refine W_seq ?_
  refine W_reg rfl ?_
  refine O_es (e_alloc (cs := #[.bool false, .int .i64 0, .int .i64 0]) Tryz.zeroValue150 rfl) ?_
  rintro _ _ ⟨b2, rfl, rfl⟩
  refine O_nil ?_
  refine W_seq ?_
  refine W_reg rfl ?_
  refine O_qs (q_move rfl) ?_
  refine O_qs (q_geq rfl rfl) ?_
  refine O_qs (q_move rfl) ?_
  refine O_qs (q_quo (c := w / 1099511627776) (by decide) (by rw [e1]; exact wu64 (by omega)) rfl rfl) ?_
  refine O_qs (q_rem (by decide) e2 rfl rfl) ?_
  refine O_qs (q_conv Tryz.runUnderlying23 Tryz.runUnderlying3 (w64 (by omega)) rfl) ?_
  refine O_qs (q_move rfl) ?_
  refine O_qs (q_rem (by decide) e3 rfl rfl) ?_
  refine O_qs (q_conv Tryz.runUnderlying23 Tryz.runUnderlying3 (w64 (by omega)) rfl) ?_
  refine O_qs (q_build rfl (bld_150 (cs := [_, _, _]) rfl)) ?_
  refine O_en (e_storeN (vs := [_, _, _]) Tryz.sizeOf150 rfl rfl rfl (by repeat (first | exact Upd.here | apply Upd.there)) rfl (by simp only [setAll, List.setIfInBounds_toArray, List.set_cons_succ, List.set_cons_zero, Nat.reduceAdd, Nat.zero_add] <;> rfl)) ?_
  rintro _ _ ⟨rfl, rfl⟩
  refine O_nil ?_
  refine W_ret ?_
  refine resL (c0 := []) rfl (.cell (us := [_, _, _]) Tryz.isAgg150 Tryz.sizeOf150 rfl (rd_range (by repeat (first | exact List.Mem.head _ | apply List.Mem.tail)) rfl) .nil) (by repeat (first | exact Pick.nil | exact Take.here | apply Pick.cons | apply Take.there)) rfl ?_
  exact ⟨rfl, rfl⟩

theorem ref13_Marked (B : World) (w : Int) (h : 0 ≤ w ∧ w < 18446744073709551616) : Ctr Tryz.prog 88 [.int .u64 w] B [] (fun u c => u = .bool (marked w) ∧ c = []) := by
  refine Ctr.intro (n := 6) Tryz.func88 rfl Tryz.ntmps88 (Nat.le_of_ble_eq_true rfl) ?_
  refine W_seq ?_
  refine W_reg rfl ?_
  refine O_qs (q_assign rfl) ?_
  refine O_nil ?_
  refine W_seq ?_
  refine W_reg rfl ?_
  refine O_qs (q_move rfl) ?_
  refine O_qs (q_cf Tryz.call101 rfl (fun wd hwd => ref02_Of _ w h) (by repeat (first | exact Pick.nil | exact Take.here | apply Pick.cons | apply Take.there))) ?_
  refine O_qs (q_field (fd_150_0 rfl) rfl) ?_
  refine O_qs (q_assign rfl) ?_
  refine O_nil ?_
  refine W_ret ?_
  refine res1 (c0 := []) rfl rfl (by repeat (first | exact Pick.nil | exact Take.here | apply Pick.cons | apply Take.there)) rfl ?_
  exact ⟨rfl, rfl⟩

theorem conf_within (B : World) (n a b : Int) : Ctr Tryz.prog 93 [.int .i64 n, .int .i64 a, .int .i64 b] B [] (fun u c => u = .bool (decide (a ≤ n) && decide (n ≤ b)) ∧ c = []) := by
  refine Ctr.intro (n := 15) Tryz.func93 rfl Tryz.ntmps93 (Nat.le_of_ble_eq_true rfl) ?_
  refine W_seq ?_
  refine W_reg rfl ?_
  refine O_qs (q_assign rfl) ?_
  refine O_nil ?_
  refine W_seq ?_
  refine W_reg rfl ?_
  refine O_qs (q_move rfl) ?_
  refine O_qs (q_move rfl) ?_
  refine O_qs (q_geq rfl rfl) ?_
  refine O_qs (q_move rfl) ?_
  refine O_qs (QY.cond0 rfl rfl rfl (fun H => q_move rfl)) ?_
  refine O_qs (QY.cond0 rfl rfl rfl (fun H => q_move rfl)) ?_
  refine O_qs (QY.cond0 rfl rfl rfl (fun H => q_leq (gvh rfl H) (gvh rfl H))) ?_
  refine O_qs (q_and rfl rfl rfl) ?_
  refine O_qs (q_assign rfl) ?_
  refine O_nil ?_
  refine W_ret ?_
  refine res1 (c0 := []) rfl rfl (by repeat (first | exact Pick.nil | exact Take.here | apply Pick.cons | apply Take.there)) rfl ?_
  exact ⟨rfl, rfl⟩

def szB (k : Int) : Int := if k = 2 then 64 else 0
def szL (k : Int) : Int := if k = 2 then 1 else 0
def szH (k : Int) : Int := if k = 3 then 16 else if 1 ≤ k ∧ k ≤ 2 then 1 else 0

theorem conf_sizes (B : World) (k : Int) : Ctr Tryz.prog 92 [.int .i64 k] B [] (fun u c => u = .tuple #[.int .i64 (szL k), .int .i64 (szB k), .int .i64 (szH k), .bool (decide (1 ≤ k ∧ k ≤ 3))] ∧ c = []) := by
  refine Ctr.intro (n := 13) Tryz.func92 rfl Tryz.ntmps92 (Nat.le_of_ble_eq_true rfl) ?_
  refine W_seq ?_
  refine W_reg rfl ?_
  refine O_qs (q_assign rfl) ?_
  refine O_qs (q_assign rfl) ?_
  refine O_qs (q_assign rfl) ?_
  refine O_qs (q_assign rfl) ?_
  refine O_nil ?_
  refine W_seq ?_
  refine W_seq ?_
  refine W_reg rfl ?_
  refine O_qs (q_move rfl) ?_
  refine O_nil ?_
  refine W_block ?_
  refine W_seq ?_
  refine W_reg rfl ?_
  refine O_qs (q_eql rfl rfl) ?_
  refine O_qs (q_assign rfl) ?_
  refine O_nil ?_
  refine W_cond rfl ?_ ?_
  · intro h
    refine W_seq ?_
    refine W_reg rfl ?_
    refine O_qs (q_assign rfl) ?_
    refine O_qs (q_assign rfl) ?_
    refine O_qs (q_assign rfl) ?_
    refine O_qs (q_assign rfl) ?_
    refine O_nil ?_
    refine W_ret ?_
    refine resL (c0 := []) rfl (.tmp rfl (.tmp rfl (.tmp rfl (.tmp rfl .nil)))) (by repeat (first | exact Pick.nil | exact Take.here | apply Pick.cons | apply Take.there)) rfl ?_
    simp at h
    subst h
    exact ⟨rfl, rfl⟩
  · intro h
    refine W_seq ?_
    refine W_reg rfl ?_
    refine O_qs (q_eql rfl rfl) ?_
    refine O_qs (q_assign rfl) ?_
    refine O_nil ?_
    refine W_cond rfl ?_ ?_
    · intro h2
      refine W_seq ?_
      refine W_reg rfl ?_
      refine O_qs (q_assign rfl) ?_
      refine O_qs (q_assign rfl) ?_
      refine O_qs (q_assign rfl) ?_
      refine O_qs (q_assign rfl) ?_
      refine O_nil ?_
      refine W_ret ?_
      refine resL (c0 := []) rfl (.tmp rfl (.tmp rfl (.tmp rfl (.tmp rfl .nil)))) (by repeat (first | exact Pick.nil | exact Take.here | apply Pick.cons | apply Take.there)) rfl ?_
      simp at h2
      subst h2
      exact ⟨rfl, rfl⟩
    · intro h2
      refine W_seq ?_
      refine W_reg rfl ?_
      refine O_qs (q_eql rfl rfl) ?_
      refine O_qs (q_assign rfl) ?_
      refine O_nil ?_
      refine W_cond rfl ?_ ?_
      · intro h3
        refine W_seq ?_
        refine W_reg rfl ?_
        refine O_qs (q_assign rfl) ?_
        refine O_qs (q_assign rfl) ?_
        refine O_qs (q_assign rfl) ?_
        refine O_qs (q_assign rfl) ?_
        refine O_nil ?_
        refine W_ret ?_
        refine resL (c0 := []) rfl (.tmp rfl (.tmp rfl (.tmp rfl (.tmp rfl .nil)))) (by repeat (first | exact Pick.nil | exact Take.here | apply Pick.cons | apply Take.there)) rfl ?_
        simp at h3
        subst h3
        exact ⟨rfl, rfl⟩
      · intro h3
        refine W_skip ?_
        refine W_seq ?_
        refine W_reg rfl ?_
        refine O_qs (q_assign rfl) ?_
        refine O_qs (q_assign rfl) ?_
        refine O_qs (q_assign rfl) ?_
        refine O_qs (q_assign rfl) ?_
        refine O_nil ?_
        refine W_ret ?_
        refine resL (c0 := []) rfl (.tmp rfl (.tmp rfl (.tmp rfl (.tmp rfl .nil)))) (by repeat (first | exact Pick.nil | exact Take.here | apply Pick.cons | apply Take.there)) rfl ?_
        simp at h h2 h3
        have e : ¬ (1 ≤ k ∧ k ≤ 3) := by omega
        have e2 : ¬ (1 ≤ k ∧ k ≤ 2) := by omega
        simp [packR, szL, szB, szH, h2, h3, e, e2]

theorem conf_Check (B : World) (x : Conf) : Ctr Tryz.prog 59 [x.v] B [] (fun u c => u = .int .i64 x.err ∧ c = []) := by
  refine Ctr.intro (n := 43) Tryz.func59 rfl Tryz.ntmps59 (Nat.le_of_ble_eq_true rfl) ?_
  refine W_seq ?_
  refine W_reg rfl ?_
  refine O_es (e_box (cs := #[_, _, _, _, _]) rfl rfl) ?_
  rintro _ _ ⟨b1, rfl, rfl⟩
  refine O_qs (q_assign rfl) ?_
  refine O_nil ?_
  refine W_seq ?_
  refine W_reg rfl ?_
  refine O_qs (q_fa fa_38_0 rfl) ?_
  refine O_qs (q_load Tryz.isAgg3 rfl (rd_chunk (by repeat (first | exact List.Mem.head _ | apply List.Mem.tail)) rfl)) ?_
  refine O_qs (q_cf Tryz.call92 rfl (fun wd hwd => conf_sizes _ x.kind) (by repeat (first | exact Pick.nil | exact Take.here | apply Pick.cons | apply Take.there))) ?_
  refine O_qs (q_move rfl) ?_
  refine O_qs (q_extract rfl rfl) ?_
  refine O_qs (q_extract rfl rfl) ?_
  refine O_qs (q_extract rfl rfl) ?_
  refine O_qs (q_extract rfl rfl) ?_
  refine O_qs (q_assign rfl) ?_
  refine O_qs (q_assign rfl) ?_
  refine O_qs (q_assign rfl) ?_
  refine O_qs (q_assign rfl) ?_
  refine O_nil ?_
  refine W_seq ?_
  refine W_block ?_
  refine W_seq ?_
  refine W_reg rfl ?_
  refine O_qs (q_move rfl) ?_
  refine O_qs (q_not rfl) ?_
  refine O_qs (q_assign rfl) ?_
  refine O_nil ?_
  refine W_cond rfl ?_ ?_
  · intro h
    refine W_seq ?_
    refine W_reg rfl ?_
    refine O_qs (q_assign rfl) ?_
    refine O_nil ?_
    refine W_ret ?_
    refine res1 (c0 := []) rfl rfl (by repeat (first | exact Pick.nil | exact Take.here | apply Pick.cons | apply Take.there)) rfl ?_
    refine ⟨?_, rfl⟩
    have : ¬ x.kindOk := by unfold Conf.kindOk; simp at h; omega
    simp [Conf.err, this]
  · intro h
    have hk : x.kindOk := by unfold Conf.kindOk; simp at h; omega
    refine W_seq ?_
    refine W_reg rfl ?_
    refine O_qs (q_fa fa_38_1 rfl) ?_
    refine O_qs (q_load Tryz.isAgg3 rfl (rd_chunk (by repeat (first | exact List.Mem.head _ | apply List.Mem.tail)) rfl)) ?_
    refine O_qs (q_cf Tryz.call93 rfl (fun wd hwd => conf_within _ x.slots 1 8388607) (by repeat (first | exact Pick.nil | exact Take.here | apply Pick.cons | apply Take.there))) ?_
    refine O_qs (q_not rfl) ?_
    refine O_qs (q_move rfl) ?_
    refine O_qs (QY.cond0 rfl rfl rfl (fun H => q_fa fa_38_2 rfl)) ?_
    refine O_qs (QY.cond0 rfl rfl rfl (fun H => q_load Tryz.isAgg3 (gvh rfl H) (rd_chunk (by repeat (first | exact List.Mem.head _ | apply List.Mem.tail)) rfl))) ?_
    refine O_qs (QY.cond0 rfl rfl rfl (fun H => q_move rfl)) ?_
    refine O_qs (QY.cond0 rfl rfl rfl (fun H => q_move rfl)) ?_
    refine O_qs (QY.cond0 rfl rfl rfl (fun H => q_cf Tryz.call93 (ev_cons (gvh rfl H) (ev_cons (gvh rfl H) (ev_cons (gvh rfl H) ev_nil))) (fun wd hwd => conf_within _ x.buckets (szL x.kind) (szB x.kind)) (by repeat (first | exact Pick.nil | exact Take.here | apply Pick.cons | apply Take.there)))) ?_
    refine O_qs (QY.cond0 rfl rfl rfl (fun H => q_not (gvh rfl H))) ?_
    refine O_qs (q_or rfl rfl rfl) ?_
    refine O_qs (q_assign rfl) ?_
    refine O_nil ?_
    refine W_cond rfl ?_ ?_
    · intro h2
      refine W_seq ?_
      refine W_reg rfl ?_
      refine O_qs (q_assign rfl) ?_
      refine O_nil ?_
      refine W_ret ?_
      refine res1 (c0 := []) rfl rfl (by repeat (first | exact Pick.nil | exact Take.here | apply Pick.cons | apply Take.there)) rfl ?_
      refine ⟨?_, rfl⟩
      have : ¬ x.sizesOk := by
        intro hs
        obtain ⟨s1, s2, s3, s4⟩ := hs
        simp [s1.1, s1.2, szL, szB] at h2
        split at s3 <;> simp_all <;> omega
      simp [Conf.err, hk, this]
    · intro h2
      refine W_seq ?_
      refine W_reg rfl ?_
      refine O_qs (q_fa fa_38_3 rfl) ?_
      refine O_qs (q_load Tryz.isAgg3 rfl (rd_chunk (by repeat (first | exact List.Mem.head _ | apply List.Mem.tail)) rfl)) ?_
      refine O_qs (q_move rfl) ?_
      refine O_qs (q_cf Tryz.call93 rfl (fun wd hwd => conf_within _ x.height 1 (szH x.kind)) (by repeat (first | exact Pick.nil | exact Take.here | apply Pick.cons | apply Take.there))) ?_
      refine O_qs (q_not rfl) ?_
      refine O_qs (q_move rfl) ?_
      refine O_qs (QY.cond0 rfl rfl rfl (fun H => q_fa fa_38_4 rfl)) ?_
      refine O_qs (QY.cond0 rfl rfl rfl (fun H => q_load Tryz.isAgg3 (gvh rfl H) (rd_chunk (by repeat (first | exact List.Mem.head _ | apply List.Mem.tail)) rfl))) ?_
      refine O_qs (QY.cond0 rfl rfl rfl (fun H => q_cf Tryz.call93 (ev_cons (gvh rfl H) (ev_cons rfl (ev_cons rfl ev_nil))) (fun wd hwd => conf_within _ x.limit 2 1099511627775) (by repeat (first | exact Pick.nil | exact Take.here | apply Pick.cons | apply Take.there)))) ?_
      refine O_qs (QY.cond0 rfl rfl rfl (fun H => q_not (gvh rfl H))) ?_
      refine O_qs (q_or rfl rfl rfl) ?_
      refine O_qs (q_assign rfl) ?_
      refine O_nil ?_
      refine W_cond rfl ?_ ?_
      · intro h3
        refine W_seq ?_
        refine W_reg rfl ?_
        refine O_qs (q_assign rfl) ?_
        refine O_nil ?_
        refine W_ret ?_
        refine res1 (c0 := []) rfl rfl (by repeat (first | exact Pick.nil | exact Take.here | apply Pick.cons | apply Take.there)) rfl ?_
        refine ⟨?_, rfl⟩
        have : ¬ x.sizesOk := by
          intro hs
          obtain ⟨s1, s2, s3, s4⟩ := hs
          have hk' := hk
          unfold Conf.kindOk at hk'
          simp [s2.1, s2.2, szH] at h3
          split at s4 <;> simp_all <;> omega
        simp [Conf.err, hk, this]
      · intro h3
        refine W_skip ?_
        refine W_seq ?_
        refine W_reg rfl ?_
        refine O_qs (q_assign rfl) ?_
        refine O_nil ?_
        refine W_ret ?_
        refine res1 (c0 := []) rfl rfl (by repeat (first | exact Pick.nil | exact Take.here | apply Pick.cons | apply Take.there)) rfl ?_
        refine ⟨?_, rfl⟩
        have : x.sizesOk := by
          have hk' := hk
          unfold Conf.kindOk at hk'
          simp [szL, szB] at h2
          simp [szH] at h3
          refine ⟨by omega, by omega, ?_, ?_⟩
          · split at h2 <;> simp_all <;> omega
          · split at h3 <;> simp_all <;> omega
        simp [Conf.err, hk, this]

theorem place_Epoch (B : World) : Ctr Tryz.prog 62 [] B [] (fun u c => u = epochP.v ∧ c = []) := by
  refine Ctr.intro (n := 2) Tryz.func62 rfl Tryz.ntmps62 (Nat.le_of_ble_eq_true rfl) ?_
  refine W_seq ?_
  refine W_reg rfl ?_
  refine O_es (e_alloc (cs := #[.int .i64 0, .int .i64 0, .int .i64 0]) Tryz.zeroValue51 rfl) ?_
  rintro _ _ ⟨b0, rfl, rfl⟩
  refine O_nil ?_
  refine W_seq ?_
  refine W_reg rfl ?_
  refine O_qs (q_build rfl (bld_51 (cs := [_, _, _]) rfl)) ?_
  refine O_en (e_storeN (vs := [_, _, _]) Tryz.sizeOf51 rfl rfl rfl (by repeat (first | exact Upd.here | apply Upd.there)) rfl (by simp only [setAll, List.setIfInBounds_toArray, List.set_cons_succ, List.set_cons_zero, Nat.reduceAdd, Nat.zero_add] <;> rfl)) ?_
  rintro _ _ ⟨rfl, rfl⟩
  refine O_nil ?_
  refine W_ret ?_
  refine resL (c0 := []) rfl (.cell (us := [_, _, _]) Tryz.isAgg51 Tryz.sizeOf51 rfl (rd_range (by repeat (first | exact List.Mem.head _ | apply List.Mem.tail)) rfl) .nil) (by repeat (first | exact Pick.nil | exact Take.here | apply Pick.cons | apply Take.there)) rfl ?_
  exact ⟨rfl, rfl⟩

theorem ref13_Epoch (B : World) : Ctr Tryz.prog 51 [] B [] (fun u c => u = epochP.v ∧ c = []) := by
  refine Ctr.intro (n := 2) Tryz.func51 rfl Tryz.ntmps51 (Nat.le_of_ble_eq_true rfl) ?_
  refine W_seq ?_
  refine W_reg rfl ?_
  refine O_es (e_alloc (cs := #[.int .i64 0, .int .i64 0, .int .i64 0]) Tryz.zeroValue51 rfl) ?_
  rintro _ _ ⟨b0, rfl, rfl⟩
  refine O_nil ?_
  refine W_seq ?_
  refine W_reg rfl ?_
  refine O_qs (q_build rfl (bld_51 (cs := [_, _, _]) rfl)) ?_
  refine O_en (e_storeN (vs := [_, _, _]) Tryz.sizeOf51 rfl rfl rfl (by repeat (first | exact Upd.here | apply Upd.there)) rfl (by simp only [setAll, List.setIfInBounds_toArray, List.set_cons_succ, List.set_cons_zero, Nat.reduceAdd, Nat.zero_add] <;> rfl)) ?_
  rintro _ _ ⟨rfl, rfl⟩
  refine O_nil ?_
  refine W_ret ?_
  refine resL (c0 := []) rfl (.cell (us := [_, _, _]) Tryz.isAgg51 Tryz.sizeOf51 rfl (rd_range (by repeat (first | exact List.Mem.head _ | apply List.Mem.tail)) rfl) .nil) (by repeat (first | exact Pick.nil | exact Take.here | apply Pick.cons | apply Take.there)) rfl ?_
  exact ⟨rfl, rfl⟩
end Go.Proofs.YtbfplncdmbjjhaaGreat
