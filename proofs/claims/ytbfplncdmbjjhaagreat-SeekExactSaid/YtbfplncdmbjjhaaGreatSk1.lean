/-
  Walks: the way back from words to links; places; the plain world's other answers; a lane.
-/
import Derived.Test.YtbfplncdmbjjhaaGreatU
import Derived.Test.YtbfplncdmbjjhaaGreatSkp
set_option linter.unusedSimpArgs false
set_option linter.unusedVariables false
namespace Go.Proofs.YtbfplncdmbjjhaaGreat
open Go Go.SL

def fget (d w : Int) : Int := if d = 40 then w % 1099511627776 else if d = 23 then w / 1099511627776 % 8388608 else w / 9223372036854775808 % 2

theorem field_Get (B : World) (a d w : Int) (h : IsF a d) (hw : 0 ≤ w ∧ w < 18446744073709551616) : Ctr Tryz.prog 146 [.agg #[.int .i64 a, .int .i64 d], .int .u64 w] B [] (fun v c => v = .int .u64 (fget d w) ∧ c = []) := by
  have hb : 0 ≤ a ∧ a ≤ 63 ∧ 1 ≤ d ∧ d ≤ 40 ∧ a + d ≤ 64 := by rcases h with ⟨rfl, rfl⟩ | ⟨rfl, rfl⟩ | ⟨rfl, rfl⟩ <;> omega
  obtain ⟨s, hs, hr⟩ : ∃ s : Int, w.fdiv (2 ^ (min a.toNat IntKind.u64.bits)) = s ∧ IntKind.u64.wrap ((BitVec.ofInt IntKind.u64.bits s &&& BitVec.ofInt IntKind.u64.bits (fmax d)).toNat : Nat) = fget d w := by
    obtain ⟨n, rfl⟩ := Int.eq_ofNat_of_zero_le hw.1
    rcases h with ⟨rfl, rfl⟩ | ⟨rfl, rfl⟩ | ⟨rfl, rfl⟩
    · refine ⟨(n : Int), ?_, ?_⟩
      · show Int.fdiv (n : Int) 1 = n
        rw [Int.fdiv_eq_ediv_of_nonneg _ (by decide), Int.ediv_one]
      · have := and_mask n 40 (by omega) (by decide)
        refine Eq.trans this ?_
        unfold fget
        simp
    · refine ⟨((n / 1099511627776 : Nat) : Int), ?_, ?_⟩
      · show Int.fdiv (n : Int) 1099511627776 = _
        rw [Int.fdiv_eq_ediv_of_nonneg _ (by decide)]
        rfl
      · have := and_mask (n / 1099511627776) 23 (by omega) (by decide)
        refine Eq.trans this ?_
        unfold fget
        simp
    · refine ⟨((n / 9223372036854775808 : Nat) : Int), ?_, ?_⟩
      · show Int.fdiv (n : Int) 9223372036854775808 = _
        rw [Int.fdiv_eq_ediv_of_nonneg _ (by decide)]
        rfl
      · have := and_mask (n / 9223372036854775808) 1 (by omega) (by decide)
        refine Eq.trans this ?_
        unfold fget
        simp
  refine Ctr.intro (n := 16) Tryz.func146 rfl Tryz.ntmps146 (Nat.le_of_ble_eq_true rfl) ?_
  refine W_seq ?_
  refine W_reg rfl ?_
  refine O_es (e_box (cs := #[_, _]) rfl rfl) ?_
  rintro _ _ ⟨b2, rfl, rfl⟩
  refine O_qs (q_assign rfl) ?_
  refine O_nil ?_
  refine W_seq ?_
  refine W_seq ?_
  refine W_reg rfl ?_
  refine O_qs (q_loadN (vs := [_, _]) Tryz.isAgg217 Tryz.sizeOf217 rfl (rd_range (by repeat (first | exact List.Mem.head _ | apply List.Mem.tail)) rfl)) ?_
  refine O_qs (q_cf Tryz.call153 rfl (fun wd hwd => field_Is _ a d h) (by repeat (first | exact Pick.nil | exact Take.here | apply Pick.cons | apply Take.there))) ?_
  refine O_qs (q_not rfl) ?_
  refine O_nil ?_
  refine W_false rfl ?_
  refine W_skip ?_
  refine W_seq ?_
  refine W_draw [[], [], [1], [1, 2], [0, 1, 2, 3], [], [5], [0, 1, 2, 3, 4, 5, 6], [0, 1, 2, 3, 4, 5, 6, 7]] rfl rfl rfl ?_
  refine V.qs 0 rfl rfl (q_move rfl) ?_
  refine V.qs 1 rfl rfl (q_fa fa_217_0 rfl) ?_
  refine V.qs 2 rfl rfl (q_load Tryz.isAgg3 rfl (rd_chunk (by repeat (first | exact List.Mem.head _ | apply List.Mem.tail)) rfl)) ?_
  refine V.qs 3 rfl rfl (q_conv Tryz.runUnderlying3 Tryz.runUnderlying30 (wu64 (by omega)) rfl) ?_
  refine V.qs 4 rfl rfl (q_shr (c := s) (by omega) hs rfl rfl) ?_
  refine V.qs 5 rfl rfl (q_loadN (vs := [_, _]) Tryz.isAgg217 Tryz.sizeOf217 rfl (rd_range (by repeat (first | exact List.Mem.head _ | apply List.Mem.tail)) rfl)) ?_
  refine V.qs 6 rfl rfl (q_cf Tryz.call152 rfl (fun wd hwd => field_Max _ a d h) (by repeat (first | exact Pick.nil | exact Take.here | apply Pick.cons | apply Take.there))) ?_
  refine V.qs 7 rfl rfl (q_andI (c := fget d w) hr rfl rfl) ?_
  refine V.qs 8 rfl rfl (q_assign rfl) ?_
  refine V.fin rfl ?_
  refine W_ret ?_
  refine res1 (c0 := []) rfl rfl (by repeat (first | exact Pick.nil | exact Take.here | apply Pick.cons | apply Take.there)) rfl ?_
  exact ⟨rfl, rfl⟩

theorem field_Unpack (B : World) (b : Nat) (w : Int) (hw : 0 ≤ w ∧ w < 18446744073709551616) :
    Ctr Tryz.prog 133 [.slice (some ⟨b, 0, none⟩) 3 3, .int .u64 w] B [[(b, .cells fieldsC 217 (0, 0))]] (fun u c => ∃ R, Row layU 23 R u [fget 40 w, fget 23 w, fget 1 w] ∧ c = [R]) := by
  refine Ctr.intro (n := 22) Tryz.func133 rfl Tryz.ntmps133 (Nat.le_of_ble_eq_true rfl) ?_
  refine W_seq ?_
  refine W_reg rfl ?_
  refine O_qs (q_assign rfl) ?_
  refine O_nil ?_
  refine W_seq ?_
  refine W_reg rfl ?_
  refine O_qs (q_assign rfl) ?_
  refine O_nil ?_
  refine W_seq ?_
  refine W_seq ?_
  refine W_reg rfl ?_
  refine O_qs (q_move rfl) ?_
  refine O_qs (q_len Tryz.runUnderlying202 rfl) ?_
  refine O_qs (q_move rfl) ?_
  refine O_nil ?_
  refine W_block ?_
  refine W_conv (ctx' := [[(b, .cells fieldsC 217 (0, 0))], []]) rfl ?_
  refine W_unroll ?_
  refine W_seq ?_
  refine W_reg rfl ?_
  refine O_qs (q_lss rfl rfl) ?_
  refine O_nil ?_
  refine W_seq ?_
  refine W_true rfl ?_
  refine W_skip ?_
  refine W_seq ?_
  refine W_block ?_
  refine W_seq ?_
  refine W_reg rfl ?_
  refine O_qs (q_ia Tryz.runUnderlying202 Tryz.sizeOf217 rfl rfl (by decide)) ?_
  refine O_qs (q_loadN (vs := [_, _]) Tryz.isAgg217 Tryz.sizeOf217 rfl (rd_range (by repeat (first | exact List.Mem.head _ | apply List.Mem.tail)) rfl)) ?_
  refine O_es (e_alloc (cs := #[.int .i64 0, .int .i64 0]) Tryz.zeroValue217 rfl) ?_
  rintro _ _ ⟨b7, rfl, rfl⟩
  refine O_en (e_storeN (vs := [_, _]) Tryz.sizeOf217 rfl rfl rfl (by repeat (first | exact Upd.here | apply Upd.there)) rfl (by simp only [setAll, List.setIfInBounds_toArray, List.set_cons_succ, List.set_cons_zero, Nat.reduceAdd, Nat.zero_add] <;> rfl)) ?_
  rintro _ _ ⟨rfl, rfl⟩
  refine O_nil ?_
  refine W_reg rfl ?_
  refine O_qs (q_move rfl) ?_
  refine O_qs (q_loadN (vs := [_, _]) Tryz.isAgg217 Tryz.sizeOf217 rfl (rd_range (by repeat (first | exact List.Mem.head _ | apply List.Mem.tail)) rfl)) ?_
  refine O_qs (q_move rfl) ?_
  refine O_qs (q_cf Tryz.call146 rfl (fun wd hwd => field_Get _ 0 40 w (by simp [IsF]) hw) (by repeat (first | exact Pick.nil | exact Take.here | apply Pick.cons | apply Take.there))) ?_
  refine O_es (e_bslice (zl := [.int .u64 0]) (cs := [_]) Tryz.runUnderlying204 Tryz.sizeOf23 Tryz.zeroValue23 rfl (by kernel_rfl) rfl rfl) ?_
  rintro _ _ ⟨b18, rfl, rfl⟩
  refine O_es (ap_U (L := []) (N := [fget 40 w]) (Row.nil ..) (fun _ => (by repeat (first | exact Upd.here | apply Upd.there))) rfl rfl (src_raw (by repeat (first | exact List.Mem.head _ | apply List.Mem.tail))) (by simp)) ?_
  rintro _ _ ⟨R1, hR1, rfl⟩
  refine O_qs (q_assign rfl) ?_
  refine O_nil ?_
  refine W_reg rfl ?_
  refine O_qs (q_add (w64 (by omega)) rfl rfl) ?_
  refine O_qs (q_move rfl) ?_
  refine O_nil ?_
  refine L_unroll ?_
  refine W_seq ?_
  refine W_reg rfl ?_
  refine O_qs (q_lss rfl rfl) ?_
  refine O_nil ?_
  refine W_seq ?_
  refine W_true rfl ?_
  refine W_skip ?_
  refine W_seq ?_
  refine W_block ?_
  refine W_seq ?_
  refine W_reg rfl ?_
  refine O_qs (q_ia Tryz.runUnderlying202 Tryz.sizeOf217 rfl rfl (by decide)) ?_
  refine O_qs (q_loadN (vs := [_, _]) Tryz.isAgg217 Tryz.sizeOf217 rfl (rd_range (by repeat (first | exact List.Mem.head _ | apply List.Mem.tail)) rfl)) ?_
  refine O_es (e_alloc (cs := #[.int .i64 0, .int .i64 0]) Tryz.zeroValue217 rfl) ?_
  rintro _ _ ⟨b7, rfl, rfl⟩
  refine O_en (e_storeN (vs := [_, _]) Tryz.sizeOf217 rfl rfl rfl (by repeat (first | exact Upd.here | apply Upd.there)) rfl (by simp only [setAll, List.setIfInBounds_toArray, List.set_cons_succ, List.set_cons_zero, Nat.reduceAdd, Nat.zero_add] <;> rfl)) ?_
  rintro _ _ ⟨rfl, rfl⟩
  refine O_nil ?_
  refine W_reg rfl ?_
  refine O_qs (q_move rfl) ?_
  refine O_qs (q_loadN (vs := [_, _]) Tryz.isAgg217 Tryz.sizeOf217 rfl (rd_range (by repeat (first | exact List.Mem.head _ | apply List.Mem.tail)) rfl)) ?_
  refine O_qs (q_move rfl) ?_
  refine O_qs (q_cf Tryz.call146 rfl (fun wd hwd => field_Get _ 40 23 w (by simp [IsF]) hw) (by repeat (first | exact Pick.nil | exact Take.here | apply Pick.cons | apply Take.there))) ?_
  refine O_es (e_bslice (zl := [.int .u64 0]) (cs := [_]) Tryz.runUnderlying204 Tryz.sizeOf23 Tryz.zeroValue23 rfl (by kernel_rfl) rfl rfl) ?_
  rintro _ _ ⟨b18, rfl, rfl⟩
  refine O_es (ap_U (N := [fget 23 w]) hR1 (fun _ => (by repeat (first | exact Upd.here | apply Upd.there))) rfl rfl (src_raw (by repeat (first | exact List.Mem.head _ | apply List.Mem.tail))) (by simp)) ?_
  rintro _ _ ⟨R2, hR2, rfl⟩
  refine O_qs (q_assign rfl) ?_
  refine O_nil ?_
  refine W_reg rfl ?_
  refine O_qs (q_add (w64 (by omega)) rfl rfl) ?_
  refine O_qs (q_move rfl) ?_
  refine O_nil ?_
  refine L_unroll ?_
  refine W_seq ?_
  refine W_reg rfl ?_
  refine O_qs (q_lss rfl rfl) ?_
  refine O_nil ?_
  refine W_seq ?_
  refine W_true rfl ?_
  refine W_skip ?_
  refine W_seq ?_
  refine W_block ?_
  refine W_seq ?_
  refine W_reg rfl ?_
  refine O_qs (q_ia Tryz.runUnderlying202 Tryz.sizeOf217 rfl rfl (by decide)) ?_
  refine O_qs (q_loadN (vs := [_, _]) Tryz.isAgg217 Tryz.sizeOf217 rfl (rd_range (by repeat (first | exact List.Mem.head _ | apply List.Mem.tail)) rfl)) ?_
  refine O_es (e_alloc (cs := #[.int .i64 0, .int .i64 0]) Tryz.zeroValue217 rfl) ?_
  rintro _ _ ⟨b7, rfl, rfl⟩
  refine O_en (e_storeN (vs := [_, _]) Tryz.sizeOf217 rfl rfl rfl (by repeat (first | exact Upd.here | apply Upd.there)) rfl (by simp only [setAll, List.setIfInBounds_toArray, List.set_cons_succ, List.set_cons_zero, Nat.reduceAdd, Nat.zero_add] <;> rfl)) ?_
  rintro _ _ ⟨rfl, rfl⟩
  refine O_nil ?_
  refine W_reg rfl ?_
  refine O_qs (q_move rfl) ?_
  refine O_qs (q_loadN (vs := [_, _]) Tryz.isAgg217 Tryz.sizeOf217 rfl (rd_range (by repeat (first | exact List.Mem.head _ | apply List.Mem.tail)) rfl)) ?_
  refine O_qs (q_move rfl) ?_
  refine O_qs (q_cf Tryz.call146 rfl (fun wd hwd => field_Get _ 63 1 w (by simp [IsF]) hw) (by repeat (first | exact Pick.nil | exact Take.here | apply Pick.cons | apply Take.there))) ?_
  refine O_es (e_bslice (zl := [.int .u64 0]) (cs := [_]) Tryz.runUnderlying204 Tryz.sizeOf23 Tryz.zeroValue23 rfl (by kernel_rfl) rfl rfl) ?_
  rintro _ _ ⟨b18, rfl, rfl⟩
  refine O_es (ap_U (N := [fget 1 w]) hR2 (fun _ => (by repeat (first | exact Upd.here | apply Upd.there))) rfl rfl (src_raw (by repeat (first | exact List.Mem.head _ | apply List.Mem.tail))) (by simp)) ?_
  rintro _ _ ⟨R3, hR3, rfl⟩
  refine O_qs (q_assign rfl) ?_
  refine O_nil ?_
  refine W_reg rfl ?_
  refine O_qs (q_add (w64 (by omega)) rfl rfl) ?_
  refine O_qs (q_move rfl) ?_
  refine O_nil ?_
  refine L_unroll ?_
  refine W_seq ?_
  refine W_reg rfl ?_
  refine O_qs (q_lss rfl rfl) ?_
  refine O_nil ?_
  refine W_seq ?_
  refine W_false rfl ?_
  refine W_exit ?_
  refine W_seq ?_
  refine W_reg rfl ?_
  refine O_qs (q_move rfl) ?_
  refine O_qs (q_assign rfl) ?_
  refine O_nil ?_
  refine W_ret ?_
  refine res1 (c0 := [R3]) rfl rfl (by repeat (first | exact Pick.nil | exact Take.here | apply Pick.cons | apply Take.there)) rfl ?_
  exact ⟨R3, hR3, rfl⟩

theorem link_Of (B : World) (w : Int) (hw : 0 ≤ w ∧ w < 18446744073709551616) : Ctr Tryz.prog 124 [.int .u64 w] B [] (fun u c => u = .agg #[.bool (marked w), .int .i64 (wslot w), .int .i64 (wver w)] ∧ c = []) := by
  have f23 : fget 23 w = wslot w := rfl
  have f40 : fget 40 w = wver w := rfl
  have b2 : 0 ≤ wslot w ∧ wslot w < 8388608 := by unfold wslot; omega
  have b3 : 0 ≤ wver w ∧ wver w < 1099511627776 := by unfold wver; omega
  have f1 : decide (fget 1 w = 1) = marked w := by
    unfold fget marked
    simp
    omega
  refine Ctr.intro (n := 20) Tryz.func124 rfl Tryz.ntmps124 (Nat.le_of_ble_eq_true rfl) ?_
  refine W_seq ?_
  refine W_reg rfl ?_
  refine O_es (e_alloc (cs := #[.bool false, .int .i64 0, .int .i64 0]) Tryz.zeroValue193 rfl) ?_
  rintro _ _ ⟨b2, rfl, rfl⟩
  refine O_nil ?_
  refine W_seq ?_
  refine W_reg rfl ?_
  refine O_es (e_cf Tryz.call132 rfl (fun wd hwd => link_fields _) (by repeat (first | exact Pick.nil | exact Take.here | apply Pick.cons | apply Take.there))) ?_
  rintro _ _ ⟨_, ⟨b1, rfl, rfl⟩, rfl⟩
  refine O_qs (q_move rfl) ?_
  refine O_es (e_cf Tryz.call133 rfl (fun wd hwd => field_Unpack _ b1 w hw) (by repeat (first | exact Pick.nil | exact Take.here | apply Pick.cons | apply Take.there))) ?_
  rintro _ _ ⟨_, ⟨R, hR, rfl⟩, rfl⟩
  refine O_qs (q_assign rfl) ?_
  refine O_nil ?_
  refine W_seq ?_
  refine W_draw [[], [0], [0, 1], [0, 1, 2], [], [4], [4, 5], [4, 5, 6], [], [8], [8, 9], [8, 9, 10], [0, 1, 2, 3, 4, 5, 6, 7, 8, 9, 10, 11], [0, 1, 2, 3, 4, 5, 6, 7, 8, 9, 10, 11, 12]] rfl rfl rfl ?_
  refine V.qs 0 rfl rfl (q_move rfl) ?_
  obtain ⟨g, cap, rfl⟩ := hR.ptr (by simp)
  refine V.qs 1 rfl rfl (q_ian Tryz.runUnderlying204 Tryz.sizeOf23 rfl rfl (by simp)) ?_
  refine V.qs 2 rfl rfl (q_load Tryz.isAgg23 rfl (hR.rd (by repeat (first | exact List.Mem.head _ | apply List.Mem.tail)) (i := 2) (j := 0) (a := fget 1 w) rfl rfl rfl)) ?_
  refine V.qs 3 rfl rfl (q_eql rfl rfl) ?_
  refine V.qs 4 rfl rfl (q_move rfl) ?_
  refine V.qs 5 rfl rfl (q_ian Tryz.runUnderlying204 Tryz.sizeOf23 rfl rfl (by simp)) ?_
  refine V.qs 6 rfl rfl (q_load Tryz.isAgg23 rfl (hR.rd (by repeat (first | exact List.Mem.head _ | apply List.Mem.tail)) (i := 1) (j := 0) (a := fget 23 w) rfl rfl rfl)) ?_
  refine V.qs 7 rfl rfl (q_conv (c := wslot w) Tryz.runUnderlying23 Tryz.runUnderlying3 (w64 (by omega)) rfl) ?_
  refine V.qs 8 rfl rfl (q_move rfl) ?_
  refine V.qs 9 rfl rfl (q_ian Tryz.runUnderlying204 Tryz.sizeOf23 rfl rfl (by simp)) ?_
  refine V.qs 10 rfl rfl (q_load Tryz.isAgg23 rfl (hR.rd (by repeat (first | exact List.Mem.head _ | apply List.Mem.tail)) (i := 0) (j := 0) (a := fget 40 w) rfl rfl rfl)) ?_
  refine V.qs 11 rfl rfl (q_conv (c := wver w) Tryz.runUnderlying23 Tryz.runUnderlying3 (w64 (by omega)) rfl) ?_
  refine V.qs 12 rfl rfl (q_build rfl (bld_193 (cs := [_, _, _]) rfl)) ?_
  refine V.e1n 13 [] rfl rfl rfl (e_storeN (vs := [_, _, _]) Tryz.sizeOf193 rfl rfl rfl (by repeat (first | exact Upd.here | apply Upd.there)) rfl (by simp only [setAll, List.setIfInBounds_toArray, List.set_cons_succ, List.set_cons_zero, Nat.reduceAdd, Nat.zero_add] <;> rfl)) ?_
  rintro _ _ ⟨rfl, rfl⟩
  refine ⟨st_nil, ?_⟩
  refine V.fin rfl ?_
  refine W_ret ?_
  refine resL (c0 := []) rfl (.cell (us := [_, _, _]) Tryz.isAgg193 Tryz.sizeOf193 rfl (rd_range (by repeat (first | exact List.Mem.head _ | apply List.Mem.tail)) rfl) .nil) (by repeat (first | exact Pick.nil | exact Take.here | apply Pick.cons | apply Take.there)) rfl ?_
  refine ⟨?_, rfl⟩
  rw [← f1]
  rfl

theorem link_Slot (B : World) (w : Int) (hw : 0 ≤ w ∧ w < 18446744073709551616) : Ctr Tryz.prog 115 [.int .u64 w] B [] (fun u c => u = .int .i64 (wslot w) ∧ c = []) := by
  refine Ctr.intro (n := 6) Tryz.func115 rfl Tryz.ntmps115 (Nat.le_of_ble_eq_true rfl) ?_
  refine W_seq ?_
  refine W_reg rfl ?_
  refine O_qs (q_assign rfl) ?_
  refine O_nil ?_
  refine W_seq ?_
  refine W_reg rfl ?_
  refine O_qs (q_move rfl) ?_
  refine O_qs (q_cf Tryz.call124 rfl (fun wd hwd => link_Of _ w hw) (by repeat (first | exact Pick.nil | exact Take.here | apply Pick.cons | apply Take.there))) ?_
  refine O_qs (q_field (fd_193_1 rfl) rfl) ?_
  refine O_qs (q_assign rfl) ?_
  refine O_nil ?_
  refine W_ret ?_
  refine res1 (c0 := []) rfl rfl (by repeat (first | exact Pick.nil | exact Take.here | apply Pick.cons | apply Take.there)) rfl ?_
  exact ⟨rfl, rfl⟩

def lead (v : Val) : Who := ⟨wslot v.word, v.id⟩
theorem core_Lead (B : World) (v : Val) (hw : 0 ≤ v.word ∧ v.word < 18446744073709551616) : Ctr Tryz.prog 97 [v.v] B [] (fun u c => u = (lead v).v ∧ c = []) := by
  refine Ctr.intro (n := 9) Tryz.func97 rfl Tryz.ntmps97 (Nat.le_of_ble_eq_true rfl) ?_
  refine W_seq ?_
  refine W_reg rfl ?_
  refine O_es (e_box (cs := #[_, _, _]) rfl rfl) ?_
  rintro _ _ ⟨b1, rfl, rfl⟩
  refine O_es (e_alloc (cs := #[.int .i64 0, .int .i64 0]) Tryz.zeroValue65 rfl) ?_
  rintro _ _ ⟨b2, rfl, rfl⟩
  refine O_nil ?_
  refine W_seq ?_
  refine W_draw [[], [0], [0, 1], [], [3], [0, 1, 2, 3, 4], [0, 1, 2, 3, 4, 5]] rfl rfl rfl ?_
  refine V.qs 0 rfl rfl (q_fa fa_69_0 rfl) ?_
  refine V.qs 1 rfl rfl (q_load Tryz.isAgg23 rfl (rd_chunk (by repeat (first | exact List.Mem.head _ | apply List.Mem.tail)) rfl)) ?_
  refine V.qs 3 rfl rfl (q_fa fa_69_1 rfl) ?_
  refine V.qs 4 rfl rfl (q_load Tryz.isAgg3 rfl (rd_chunk (by repeat (first | exact List.Mem.head _ | apply List.Mem.tail)) rfl)) ?_
  refine V.qs 2 rfl rfl (q_cf Tryz.call115 rfl (fun wd hwd => link_Slot _ v.word hw) (by repeat (first | exact Pick.nil | exact Take.here | apply Pick.cons | apply Take.there))) ?_
  refine V.qs 5 rfl rfl (q_build rfl (bld_65 (cs := [_, _]) rfl)) ?_
  refine V.e1n 6 [] rfl rfl rfl (e_storeN (vs := [_, _]) Tryz.sizeOf65 rfl rfl rfl (by repeat (first | exact Upd.here | apply Upd.there)) rfl (by simp only [setAll, List.setIfInBounds_toArray, List.set_cons_succ, List.set_cons_zero, Nat.reduceAdd, Nat.zero_add] <;> rfl)) ?_
  rintro _ _ ⟨rfl, rfl⟩
  refine ⟨st_nil, ?_⟩
  refine V.fin rfl ?_
  refine W_ret ?_
  refine resL (c0 := []) rfl (.cell (us := [_, _]) Tryz.isAgg65 Tryz.sizeOf65 rfl (rd_range (by repeat (first | exact List.Mem.head _ | apply List.Mem.tail)) rfl) .nil) (by repeat (first | exact Pick.nil | exact Take.here | apply Pick.cons | apply Take.there)) rfl ?_
  exact ⟨rfl, rfl⟩

theorem place_Of (B : World) (s n : Int) : Ctr Tryz.prog 86 [.int .i64 s, .int .i64 n] B [] (fun u c => u = (cellP s n).v ∧ c = []) := by
  refine Ctr.intro (n := 8) Tryz.func86 rfl Tryz.ntmps86 (Nat.le_of_ble_eq_true rfl) ?_
  refine W_seq ?_
  refine W_reg rfl ?_
  refine O_es (e_alloc (cs := #[.int .i64 0, .int .i64 0, .int .i64 0]) Tryz.zeroValue51 rfl) ?_
  rintro _ _ ⟨b4, rfl, rfl⟩
  refine O_nil ?_
  refine W_seq ?_
  refine W_reg rfl ?_
  refine O_qs (q_move rfl) ?_
  refine O_qs (q_move rfl) ?_
  refine O_qs (q_build rfl (bld_51 (cs := [_, _, _]) rfl)) ?_
  refine O_en (e_storeN (vs := [_, _, _]) Tryz.sizeOf51 rfl rfl rfl (by repeat (first | exact Upd.here | apply Upd.there)) rfl (by simp only [setAll, List.setIfInBounds_toArray, List.set_cons_succ, List.set_cons_zero, Nat.reduceAdd, Nat.zero_add] <;> rfl)) ?_
  rintro _ _ ⟨rfl, rfl⟩
  refine O_nil ?_
  refine W_ret ?_
  refine resL (c0 := []) rfl (.cell (us := [_, _, _]) Tryz.isAgg51 Tryz.sizeOf51 rfl (rd_range (by repeat (first | exact List.Mem.head _ | apply List.Mem.tail)) rfl) .nil) (by repeat (first | exact Pick.nil | exact Take.here | apply Pick.cons | apply Take.there)) rfl ?_
  exact ⟨rfl, rfl⟩
theorem place_Root (B : World) (n : Int) : Ctr Tryz.prog 15 [.int .i64 n] B [] (fun u c => u = (rootP n).v ∧ c = []) := by
  refine Ctr.intro (n := 5) Tryz.func15 rfl Tryz.ntmps15 (Nat.le_of_ble_eq_true rfl) ?_
  refine W_seq ?_
  refine W_reg rfl ?_
  refine O_es (e_alloc (cs := #[.int .i64 0, .int .i64 0, .int .i64 0]) Tryz.zeroValue51 rfl) ?_
  rintro _ _ ⟨b2, rfl, rfl⟩
  refine O_nil ?_
  refine W_seq ?_
  refine W_reg rfl ?_
  refine O_qs (q_move rfl) ?_
  refine O_qs (q_build rfl (bld_51 (cs := [_, _, _]) rfl)) ?_
  refine O_en (e_storeN (vs := [_, _, _]) Tryz.sizeOf51 rfl rfl rfl (by repeat (first | exact Upd.here | apply Upd.there)) rfl (by simp only [setAll, List.setIfInBounds_toArray, List.set_cons_succ, List.set_cons_zero, Nat.reduceAdd, Nat.zero_add] <;> rfl)) ?_
  rintro _ _ ⟨rfl, rfl⟩
  refine O_nil ?_
  refine W_ret ?_
  refine resL (c0 := []) rfl (.cell (us := [_, _, _]) Tryz.isAgg51 Tryz.sizeOf51 rfl (rd_range (by repeat (first | exact List.Mem.head _ | apply List.Mem.tail)) rfl) .nil) (by repeat (first | exact Pick.nil | exact Take.here | apply Pick.cons | apply Take.there)) rfl ?_
  exact ⟨rfl, rfl⟩
theorem place_Link (B : World) (s n : Int) (hn : 0 ≤ n ∧ n ≤ 1000000) : Ctr Tryz.prog 49 [.int .i64 s, .int .i64 n] B [] (fun u c => u = (cellP s (7 + n)).v ∧ c = []) := by
  refine Ctr.intro (n := 9) Tryz.func49 rfl Tryz.ntmps49 (Nat.le_of_ble_eq_true rfl) ?_
  refine W_seq ?_
  refine W_reg rfl ?_
  refine O_es (e_alloc (cs := #[.int .i64 0, .int .i64 0, .int .i64 0]) Tryz.zeroValue51 rfl) ?_
  rintro _ _ ⟨b4, rfl, rfl⟩
  refine O_nil ?_
  refine W_seq ?_
  refine W_reg rfl ?_
  refine O_qs (q_move rfl) ?_
  refine O_qs (q_move rfl) ?_
  refine O_qs (q_add (w64 (by omega)) rfl rfl) ?_
  refine O_qs (q_cf Tryz.call86 rfl (fun wd hwd => place_Of _ s (7 + n)) (by repeat (first | exact Pick.nil | exact Take.here | apply Pick.cons | apply Take.there))) ?_
  refine O_en (e_storeN (vs := [_, _, _]) Tryz.sizeOf51 rfl rfl rfl (by repeat (first | exact Upd.here | apply Upd.there)) rfl (by simp only [setAll, List.setIfInBounds_toArray, List.set_cons_succ, List.set_cons_zero, Nat.reduceAdd, Nat.zero_add] <;> rfl)) ?_
  rintro _ _ ⟨rfl, rfl⟩
  refine O_nil ?_
  refine W_ret ?_
  refine resL (c0 := []) rfl (.cell (us := [_, _, _]) Tryz.isAgg51 Tryz.sizeOf51 rfl (rd_range (by repeat (first | exact List.Mem.head _ | apply List.Mem.tail)) rfl) .nil) (by repeat (first | exact Pick.nil | exact Take.here | apply Pick.cons | apply Take.there)) rfl ?_
  exact ⟨rfl, rfl⟩

theorem cell_Peek (B : World) (A : Atom) (cb : Nat) (k : Count) (l : List (Plc × Int)) (p : Plc) (hA : CellsIs A cb l k) :
    Ctr Tryz.prog 106 [ptr cb, p.v] B [A] (fun u c => u = .int .u64 (mem l p) ∧ c = [A]) := by
  obtain ⟨mb, Bm, rfl, hB, hw⟩ := hA
  refine Ctr.conv (pre' := [[(cb, .cells (cellsC mb k) 176 (0, 0))], Bm]) rfl ?_
  refine Ctr.intro (n := 13) Tryz.func106 rfl Tryz.ntmps106 (Nat.le_of_ble_eq_true rfl) ?_
  refine W_seq ?_
  refine W_reg rfl ?_
  refine O_es (e_box (cs := #[_, _, _]) rfl rfl) ?_
  rintro _ _ ⟨b3, rfl, rfl⟩
  refine O_qs (q_assign rfl) ?_
  refine O_nil ?_
  refine W_seq ?_
  refine W_seq ?_
  refine W_reg rfl ?_
  refine O_qs (q_move rfl) ?_
  refine O_qs (q_eqnil Tryz.runUnderlying134 rfl rfl) ?_
  refine O_nil ?_
  refine W_false rfl ?_
  refine W_skip ?_
  refine W_seq ?_
  refine W_draw [[], [0], [0, 1], [0, 1, 2], [], [0, 1, 2, 3, 4], [0, 1, 2, 3, 4, 5]] rfl rfl rfl ?_
  refine V.qs 0 rfl rfl (q_move rfl) ?_
  refine V.qs 1 rfl rfl (q_nil rfl) ?_
  refine V.qs 2 rfl rfl (q_fa fa_176_0 rfl) ?_
  refine V.qs 3 rfl rfl (q_load Tryz.isAgg174 rfl (rd_chunk (by repeat (first | exact List.Mem.head _ | apply List.Mem.tail)) rfl)) ?_
  refine V.qs 4 rfl rfl (q_loadN (vs := [_, _, _]) Tryz.isAgg51 Tryz.sizeOf51 rfl (rd_range (by repeat (first | exact List.Mem.head _ | apply List.Mem.tail)) rfl)) ?_
  refine V.qs 5 rfl rfl (lk_P hB (by repeat (first | exact List.Mem.head _ | apply List.Mem.tail)) rfl rfl) ?_
  refine V.qs 6 rfl rfl (q_assign rfl) ?_
  refine V.fin rfl ?_
  refine W_ret ?_
  refine res1 (c0 := [[(cb, _)], Bm]) (c := [(cb, _) :: Bm]) rfl rfl (by repeat (first | exact Pick.nil | exact Take.here | apply Pick.cons | apply Take.there)) rfl ?_
  exact ⟨rfl, rfl⟩

theorem world_Peek (B : World) (A : Atom) (wb : Nat) (k : Count) (l : List (Plc × Int)) (p : Plc) (hA : PlainIs A wb l k) :
    Ctr Tryz.prog 77 [ptr wb, p.v] B [A] (fun u c => u = .int .u64 (mem l p) ∧ c = [A]) := by
  obtain ⟨cb, Bm, rfl, hB⟩ := hA
  refine Ctr.conv (pre' := [wraw wb cb, Bm]) rfl ?_
  refine Ctr.intro (n := 9) Tryz.func77 rfl Tryz.ntmps77 (Nat.le_of_ble_eq_true rfl) ?_
  refine W_seq ?_
  refine W_reg rfl ?_
  refine O_es (e_box (cs := #[_, _, _]) rfl rfl) ?_
  rintro _ _ ⟨b3, rfl, rfl⟩
  refine O_qs (q_assign rfl) ?_
  refine O_nil ?_
  refine W_seq ?_
  refine W_draw [[], [0], [], [0, 1, 2], [0, 1, 2, 3]] rfl rfl rfl ?_
  refine V.qs 0 rfl rfl (q_move rfl) ?_
  refine V.qs 2 rfl rfl (q_loadN (vs := [_, _, _]) Tryz.isAgg51 Tryz.sizeOf51 rfl (rd_range (by repeat (first | exact List.Mem.head _ | apply List.Mem.tail)) rfl)) ?_
  refine V.qs 1 rfl rfl (q_cf Tryz.call78 rfl (fun wd hwd => (world_words _ wb cb)) (by repeat (first | exact Pick.nil | exact Take.here | apply Pick.cons | apply Take.there))) ?_
  refine V.qs 3 rfl rfl (q_cf Tryz.call106 rfl (fun wd hwd => (cell_Peek _ Bm cb k l p hB)) (by repeat (first | exact Pick.nil | exact Take.here | apply Pick.cons | apply Take.there))) ?_
  refine V.qs 4 rfl rfl (q_assign rfl) ?_
  refine V.fin rfl ?_
  refine W_ret ?_
  refine res1 (c0 := [wraw wb cb, Bm]) (c := [(wb, _) :: Bm]) rfl rfl (by repeat (first | exact Pick.nil | exact Take.here | apply Pick.cons | apply Take.there)) rfl ?_
  exact ⟨rfl, rfl⟩

def swapK (k : Count) (is : Bool) : Count := if is then { k with swaps := inc k.swaps } else { k with swaps := inc k.swaps, failed := inc k.failed }
theorem cell_Swap (B : World) (A : Atom) (cb : Nat) (k : Count) (l : List (Plc × Int)) (p : Plc) (o n : Int) (hn : 0 ≤ n ∧ n < 18446744073709551616) (hA : CellsIs A cb l k) :
    Ctr Tryz.prog 175 [ptr cb, p.v, .int .u64 o, .int .u64 n] B [A]
      (fun u c => ∃ A', CellsIs A' cb (if mem l p = o then putw l p n else l) (swapK k (decide (mem l p = o))) ∧ u = .bool (decide (mem l p = o)) ∧ c = [A']) := by
  obtain ⟨mb, Bm, rfl, hB, hl⟩ := hA
  refine Ctr.conv (pre' := [[(cb, .cells (cellsC mb k) 176 (0, 0))], Bm]) rfl ?_
  refine Ctr.intro (n := 41) Tryz.func175 rfl Tryz.ntmps175 (Nat.le_of_ble_eq_true rfl) ?_
  refine W_seq ?_
  refine W_reg rfl ?_
  refine O_es (e_box (cs := #[_, _, _]) rfl rfl) ?_
  rintro _ _ ⟨b5, rfl, rfl⟩
  refine O_qs (q_assign rfl) ?_
  refine O_nil ?_
  refine W_seq ?_
  refine W_seq ?_
  refine W_reg rfl ?_
  refine O_qs (q_move rfl) ?_
  refine O_qs (q_eqnil Tryz.runUnderlying134 rfl rfl) ?_
  refine O_nil ?_
  refine W_false rfl ?_
  refine W_skip ?_
  refine W_seq ?_
  refine W_reg rfl ?_
  refine O_qs (q_move rfl) ?_
  refine O_qs (q_nil rfl) ?_
  refine O_qs (q_fa fa_176_1 rfl) ?_
  refine O_qs (q_fa fa_80_2 rfl) ?_
  refine O_qs (q_load Tryz.isAgg3 rfl (rd_chunk (by repeat (first | exact List.Mem.head _ | apply List.Mem.tail)) rfl)) ?_
  refine O_qs (q_add (c := inc k.swaps) rfl rfl rfl) ?_
  refine O_qs (q_nil rfl) ?_
  refine O_qs (q_fa fa_176_1 rfl) ?_
  refine O_qs (q_fa fa_80_2 rfl) ?_
  refine O_en (e_store Tryz.sizeOf3 rfl rfl rfl (by repeat (first | exact Upd.here | apply Upd.there)) rfl (by simp only [setAll, List.setIfInBounds_toArray, List.set_cons_succ, List.set_cons_zero, Nat.reduceAdd, Nat.zero_add] <;> rfl)) ?_
  rintro _ _ ⟨rfl, rfl⟩
  refine O_nil ?_
  refine W_seq ?_
  refine W_seq ?_
  refine W_draw [[], [0], [0, 1], [0, 1, 2], [], [0, 1, 2, 3, 4], [], [0, 1, 2, 3, 4, 5, 6]] rfl rfl rfl ?_
  refine V.qs 0 rfl rfl (q_move rfl) ?_
  refine V.qs 1 rfl rfl (q_nil rfl) ?_
  refine V.qs 2 rfl rfl (q_fa fa_176_0 rfl) ?_
  refine V.qs 3 rfl rfl (q_load Tryz.isAgg174 rfl (rd_chunk (by repeat (first | exact List.Mem.head _ | apply List.Mem.tail)) rfl)) ?_
  refine V.qs 4 rfl rfl (q_loadN (vs := [_, _, _]) Tryz.isAgg51 Tryz.sizeOf51 rfl (rd_range (by repeat (first | exact List.Mem.head _ | apply List.Mem.tail)) rfl)) ?_
  refine V.qs 5 rfl rfl (lk_P hB (by repeat (first | exact List.Mem.head _ | apply List.Mem.tail)) rfl rfl) ?_
  refine V.qs 6 rfl rfl (q_move rfl) ?_
  refine V.qs 7 rfl rfl (q_neq rfl rfl) ?_
  refine V.fin rfl ?_
  refine W_cond rfl ?_ ?_
  · intro hc
    have h0 : ¬ mem l p = o := by simpa using hc
    refine W_seq ?_
    refine W_reg rfl ?_
    refine O_qs (q_move rfl) ?_
    refine O_qs (q_nil rfl) ?_
    refine O_qs (q_fa fa_176_1 rfl) ?_
    refine O_qs (q_fa fa_80_3 rfl) ?_
    refine O_qs (q_load Tryz.isAgg3 rfl (rd_chunk (by repeat (first | exact List.Mem.head _ | apply List.Mem.tail)) rfl)) ?_
    refine O_qs (q_add (c := inc k.failed) rfl rfl rfl) ?_
    refine O_qs (q_nil rfl) ?_
    refine O_qs (q_fa fa_176_1 rfl) ?_
    refine O_qs (q_fa fa_80_3 rfl) ?_
    refine O_en (e_store Tryz.sizeOf3 rfl rfl rfl (by repeat (first | exact Upd.here | apply Upd.there)) rfl (by simp only [setAll, List.setIfInBounds_toArray, List.set_cons_succ, List.set_cons_zero, Nat.reduceAdd, Nat.zero_add] <;> rfl)) ?_
    rintro _ _ ⟨rfl, rfl⟩
    refine O_nil ?_
    refine W_seq ?_
    refine W_reg rfl ?_
    refine O_qs (q_assign rfl) ?_
    refine O_nil ?_
    refine W_ret ?_
    refine res1 (c0 := [[(cb, .cells (cellsC mb { k with swaps := inc k.swaps, failed := inc k.failed }) 176 (0, 0))], Bm]) (c := [(cb, _) :: Bm]) rfl rfl (by repeat (first | exact Pick.nil | exact Take.here | apply Pick.cons | apply Take.there)) rfl ?_
    rw [if_neg h0, decide_eq_false h0]
    exact ⟨_, ⟨mb, Bm, rfl, hB, hl⟩, rfl, rfl⟩
  · intro hc
    have h0 : mem l p = o := by simpa using hc
    refine W_skip ?_
    refine W_seq ?_
    refine W_reg rfl ?_
    refine O_qs (q_move rfl) ?_
    refine O_qs (q_loadN (vs := [_, _, _]) Tryz.isAgg51 Tryz.sizeOf51 rfl (rd_range (by repeat (first | exact List.Mem.head _ | apply List.Mem.tail)) rfl)) ?_
    refine O_qs (q_move rfl) ?_
    refine O_es (e_cf Tryz.call110 rfl (fun wd hwd => (cell_put _ Bm cb mb { k with swaps := inc k.swaps } l p n hB)) (by repeat (first | exact Pick.nil | exact Take.here | apply Pick.cons | apply Take.there))) ?_
    rintro _ _ ⟨_, ⟨A', hA', rfl⟩, rfl⟩
    refine O_nil ?_
    refine W_seq ?_
    refine W_reg rfl ?_
    refine O_qs (q_assign rfl) ?_
    refine O_nil ?_
    refine W_ret ?_
    refine res1 (c0 := [[(cb, _)], A']) (c := [(cb, _) :: A']) rfl rfl (by repeat (first | exact Pick.nil | exact Take.here | apply Pick.cons | apply Take.there)) rfl ?_
    rw [if_pos h0, decide_eq_true h0]
    exact ⟨_, ⟨mb, A', rfl, hA', hl.putw p hn⟩, rfl, rfl⟩

theorem world_Swap (B : World) (A : Atom) (wb : Nat) (k : Count) (l : List (Plc × Int)) (a : At) (o n : Val) (hn : 0 ≤ n.word ∧ n.word < 18446744073709551616) (hA : PlainIs A wb l k) :
    Ctr Tryz.prog 173 [ptr wb, a.v, o.v, n.v] B [A]
      (fun u c => ∃ A', PlainIs A' wb (if mem l a.place = o.word then putw l a.place n.word else l) (swapK k (decide (mem l a.place = o.word))) ∧ u = .bool (decide (mem l a.place = o.word)) ∧ c = [A']) := by
  obtain ⟨cb, Bm, rfl, hB⟩ := hA
  refine Ctr.conv (pre' := [wraw wb cb, Bm]) rfl ?_
  refine Ctr.intro (n := 18) Tryz.func173 rfl Tryz.ntmps173 (Nat.le_of_ble_eq_true rfl) ?_
  refine W_seq ?_
  refine W_reg rfl ?_
  refine O_es (e_box (cs := #[_, _, _, _]) rfl rfl) ?_
  rintro _ _ ⟨b5, rfl, rfl⟩
  refine O_es (e_box (cs := #[_, _, _]) rfl rfl) ?_
  rintro _ _ ⟨b6, rfl, rfl⟩
  refine O_es (e_box (cs := #[_, _, _]) rfl rfl) ?_
  rintro _ _ ⟨b7, rfl, rfl⟩
  refine O_qs (q_assign rfl) ?_
  refine O_nil ?_
  refine W_seq ?_
  refine W_draw [[], [0], [], [2], [], [4], [], [6], [0, 1, 2, 3, 4, 5, 6, 7], [0, 1, 2, 3, 4, 5, 6, 7, 8]] rfl rfl rfl ?_
  refine V.qs 0 rfl rfl (q_move rfl) ?_
  refine V.qs 2 rfl rfl (q_fa fa_54_0 rfl) ?_
  refine V.qs 3 rfl rfl (q_loadN (vs := [_, _, _]) Tryz.isAgg51 Tryz.sizeOf51 rfl (rd_range (by repeat (first | exact List.Mem.head _ | apply List.Mem.tail)) rfl)) ?_
  refine V.qs 4 rfl rfl (q_fa fa_69_0 rfl) ?_
  refine V.qs 5 rfl rfl (q_load Tryz.isAgg23 rfl (rd_chunk (by repeat (first | exact List.Mem.head _ | apply List.Mem.tail)) rfl)) ?_
  refine V.qs 6 rfl rfl (q_fa fa_69_0 rfl) ?_
  refine V.qs 7 rfl rfl (q_load Tryz.isAgg23 rfl (rd_chunk (by repeat (first | exact List.Mem.head _ | apply List.Mem.tail)) rfl)) ?_
  refine V.qs 1 rfl rfl (q_cf Tryz.call78 rfl (fun wd hwd => (world_words _ wb cb)) (by repeat (first | exact Pick.nil | exact Take.here | apply Pick.cons | apply Take.there))) ?_
  refine V.e1s 8 [] rfl rfl rfl (e_cf Tryz.call175 rfl (fun wd hwd => (cell_Swap _ Bm cb k l a.place o.word n.word hn hB)) (by repeat (first | exact Pick.nil | exact Take.here | apply Pick.cons | apply Take.there))) ?_
  rintro _ _ ⟨_, ⟨A', hA', rfl, rfl⟩, rfl⟩
  refine ⟨st_nil, ?_⟩
  refine V.qs 9 rfl rfl (q_assign rfl) ?_
  refine V.fin rfl ?_
  refine W_ret ?_
  refine res1 (c0 := [wraw wb cb, A']) (c := [(wb, _) :: A']) rfl rfl (by repeat (first | exact Pick.nil | exact Take.here | apply Pick.cons | apply Take.there)) rfl ?_
  exact ⟨_, ⟨cb, A', rfl, hA'⟩, rfl, rfl⟩
end Go.Proofs.YtbfplncdmbjjhaaGreat
