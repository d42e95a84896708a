/-
  The order of places as the library's sort calls it, with what it draws.
-/
import Derived.Test.YtbfplncdmbjjhaaGreatDCal
import Derived.Test.YtbfplncdmbjjhaaGreatTy
set_option linter.unusedSimpArgs false
set_option linter.unusedVariables false
namespace Go.Proofs.YtbfplncdmbjjhaaGreat
open Go Go.SLD

def cmpI (x y : Int) : Int := if x < y then -1 else if y < x then 1 else 0
def or3 (a b c : Int) : Int := if a ≠ 0 then a else if b ≠ 0 then b else c

theorem d_isNaN (B : World) (x : Int) : Ctr Tryz.prog 129 [.int .i64 x] B [] (fun u c => u = .bool false ∧ c = []) := by
  refine Ctr.intro (n := 6) Tryz.func129 rfl Tryz.ntmps129 (Nat.le_of_ble_eq_true rfl) ?_
  refine W_seq ?_
  refine W_reg rfl ?_
  refine O_qs (q_assign rfl) ?_
  refine O_nil ?_
  refine W_seq ?_
  refine W_reg rfl ?_
  refine O_qs (q_move rfl) ?_
  refine O_qs (q_move rfl) ?_
  refine O_qs (q_neq rfl rfl) ?_
  refine O_qs (q_assign rfl) ?_
  refine O_nil ?_
  refine W_ret ?_
  refine res1 (c0 := []) rfl rfl (by repeat (first | exact Pick.nil | exact Take.here | apply Pick.cons | apply Take.there)) rfl ?_
  exact ⟨by simp, rfl⟩

theorem d_Compare (B : World) (x y : Int) : Ctr Tryz.prog 121 [.int .i64 x, .int .i64 y] B [] (fun u c => u = .int .i64 (cmpI x y) ∧ c = []) := by
  refine Ctr.intro (n := 20) Tryz.func121 rfl Tryz.ntmps121 (Nat.le_of_ble_eq_true rfl) ?_
  refine W_seq ?_
  refine W_reg rfl ?_
  refine O_qs (q_assign rfl) ?_
  refine O_nil ?_
  refine W_seq ?_
  refine W_reg rfl ?_
  refine O_qs (q_move rfl) ?_
  refine O_qs (q_cf Tryz.call129 rfl (fun wd hwd => (d_isNaN _ x)) (by repeat (first | exact Pick.nil | exact Take.here | apply Pick.cons | apply Take.there))) ?_
  refine O_qs (q_assign rfl) ?_
  refine O_nil ?_
  refine W_seq ?_
  refine W_reg rfl ?_
  refine O_qs (q_move rfl) ?_
  refine O_qs (q_cf Tryz.call129 rfl (fun wd hwd => (d_isNaN _ y)) (by repeat (first | exact Pick.nil | exact Take.here | apply Pick.cons | apply Take.there))) ?_
  refine O_qs (q_assign rfl) ?_
  refine O_nil ?_
  refine W_seq ?_
  refine W_seq ?_
  refine W_reg rfl ?_
  refine O_qs (q_move rfl) ?_
  refine O_nil ?_
  refine W_false rfl ?_
  refine W_skip ?_
  refine W_seq ?_
  refine W_seq ?_
  refine W_reg rfl ?_
  refine O_qs (q_move rfl) ?_
  refine O_nil ?_
  refine W_false rfl ?_
  refine W_skip ?_
  refine W_seq ?_
  refine W_seq ?_
  refine W_reg rfl ?_
  refine O_qs (q_move rfl) ?_
  refine O_qs (q_move rfl) ?_
  refine O_qs (q_lss rfl rfl) ?_
  refine O_nil ?_
  refine W_cond rfl ?_ ?_
  · intro hc
    have h : x < y := of_decide_eq_true hc
    refine W_seq ?_
    refine W_reg rfl ?_
    refine O_qs (q_assign rfl) ?_
    refine O_nil ?_
    refine W_ret ?_
    refine res1 (c0 := []) rfl rfl (by repeat (first | exact Pick.nil | exact Take.here | apply Pick.cons | apply Take.there)) rfl ?_
    unfold cmpI
    rw [if_pos h]
    exact ⟨rfl, rfl⟩
  intro hc
  have h : ¬ x < y := of_decide_eq_false hc
  refine W_skip ?_
  refine W_seq ?_
  refine W_seq ?_
  refine W_reg rfl ?_
  refine O_qs (q_move rfl) ?_
  refine O_qs (q_move rfl) ?_
  refine O_qs (q_gtr rfl rfl) ?_
  refine O_nil ?_
  refine W_cond rfl ?_ ?_
  · intro hc
    have h2 : y < x := of_decide_eq_true hc
    refine W_seq ?_
    refine W_reg rfl ?_
    refine O_qs (q_assign rfl) ?_
    refine O_nil ?_
    refine W_ret ?_
    refine res1 (c0 := []) rfl rfl (by repeat (first | exact Pick.nil | exact Take.here | apply Pick.cons | apply Take.there)) rfl ?_
    unfold cmpI
    rw [if_neg h, if_pos h2]
    exact ⟨rfl, rfl⟩
  intro hc
  have h2 : ¬ y < x := of_decide_eq_false hc
  refine W_skip ?_
  refine W_seq ?_
  refine W_reg rfl ?_
  refine O_qs (q_assign rfl) ?_
  refine O_nil ?_
  refine W_ret ?_
  refine res1 (c0 := []) rfl rfl (by repeat (first | exact Pick.nil | exact Take.here | apply Pick.cons | apply Take.there)) rfl ?_
  unfold cmpI
  rw [if_neg h, if_neg h2]
  exact ⟨rfl, rfl⟩

theorem d_Or (B : World) (b : Nat) (x y z : Int) : Ctr Tryz.prog 120 [.slice (some ⟨b, 0, none⟩) 3 3] B [[(b, .cells #[.int .i64 x, .int .i64 y, .int .i64 z] 3 (0, 0))]] (fun u c => u = .int .i64 (or3 x y z) ∧ c = [[(b, .cells #[.int .i64 x, .int .i64 y, .int .i64 z] 3 (0, 0))]]) := by
  refine Ctr.intro (n := 18) Tryz.func120 rfl Tryz.ntmps120 (Nat.le_of_ble_eq_true rfl) ?_
  refine W_seq ?_
  refine W_reg rfl ?_
  refine O_qs (q_assign rfl) ?_
  refine O_nil ?_
  refine W_seq ?_
  refine W_reg rfl ?_
  refine O_qs (q_assign rfl) ?_
  refine O_nil ?_
  refine W_seq ?_
  refine W_seq ?_
  refine W_reg rfl ?_
  refine O_qs (q_move rfl) ?_
  refine O_qs (q_len Tryz.runUnderlying199 rfl) ?_
  refine O_qs (q_move rfl) ?_
  refine O_nil ?_
  refine W_block ?_
  refine W_unroll ?_
  refine W_seq ?_
  refine W_reg rfl ?_
  refine O_qs (q_lss rfl rfl) ?_
  refine O_nil ?_
  refine W_seq ?_
  refine W_true rfl ?_
  refine W_skip ?_
  refine W_seq ?_
  refine W_block ?_
  refine W_seq ?_
  refine W_reg rfl ?_
  refine O_qs (q_ia Tryz.runUnderlying199 Tryz.sizeOf3 rfl rfl (by decide)) ?_
  refine O_qs (q_load Tryz.isAgg3 rfl (rd_chunk (by repeat (first | exact List.Mem.head _ | apply List.Mem.tail)) rfl)) ?_
  refine O_qs (q_assign rfl) ?_
  refine O_nil ?_
  refine W_seq ?_
  refine W_reg rfl ?_
  refine O_qs (q_move rfl) ?_
  refine O_qs (q_move rfl) ?_
  refine O_qs (q_neq rfl rfl) ?_
  refine O_nil ?_
  refine W_cond rfl ?_ ?_
  · intro hc
    have h : x ≠ 0 := by simpa using hc
    refine W_seq ?_
    refine W_reg rfl ?_
    refine O_qs (q_move rfl) ?_
    refine O_qs (q_assign rfl) ?_
    refine O_nil ?_
    refine W_ret ?_
    refine res1 (c0 := [[(b, _)]]) rfl rfl (by repeat (first | exact Pick.nil | exact Take.here | apply Pick.cons | apply Take.there)) rfl ?_
    unfold or3
    rw [if_pos h]
    exact ⟨rfl, rfl⟩
  intro hc
  have hx : ¬ x ≠ 0 := by simpa using hc
  refine W_skip ?_
  refine W_reg rfl ?_
  refine O_qs (q_add (w64 (by omega)) rfl rfl) ?_
  refine O_qs (q_move rfl) ?_
  refine O_nil ?_
  refine L_unroll ?_
  refine W_seq ?_
  refine W_reg rfl ?_
  refine O_qs (q_lss rfl rfl) ?_
  refine O_nil ?_
  refine W_seq ?_
  refine W_true rfl ?_
  refine W_skip ?_
  refine W_seq ?_
  refine W_block ?_
  refine W_seq ?_
  refine W_reg rfl ?_
  refine O_qs (q_ia Tryz.runUnderlying199 Tryz.sizeOf3 rfl rfl (by decide)) ?_
  refine O_qs (q_load Tryz.isAgg3 rfl (rd_chunk (by repeat (first | exact List.Mem.head _ | apply List.Mem.tail)) rfl)) ?_
  refine O_qs (q_assign rfl) ?_
  refine O_nil ?_
  refine W_seq ?_
  refine W_reg rfl ?_
  refine O_qs (q_move rfl) ?_
  refine O_qs (q_move rfl) ?_
  refine O_qs (q_neq rfl rfl) ?_
  refine O_nil ?_
  refine W_cond rfl ?_ ?_
  · intro hc
    have h : y ≠ 0 := by simpa using hc
    refine W_seq ?_
    refine W_reg rfl ?_
    refine O_qs (q_move rfl) ?_
    refine O_qs (q_assign rfl) ?_
    refine O_nil ?_
    refine W_ret ?_
    refine res1 (c0 := [[(b, _)]]) rfl rfl (by repeat (first | exact Pick.nil | exact Take.here | apply Pick.cons | apply Take.there)) rfl ?_
    unfold or3
    rw [if_neg hx, if_pos h]
    exact ⟨rfl, rfl⟩
  intro hc
  have hy : ¬ y ≠ 0 := by simpa using hc
  refine W_skip ?_
  refine W_reg rfl ?_
  refine O_qs (q_add (w64 (by omega)) rfl rfl) ?_
  refine O_qs (q_move rfl) ?_
  refine O_nil ?_
  refine L_unroll ?_
  refine W_seq ?_
  refine W_reg rfl ?_
  refine O_qs (q_lss rfl rfl) ?_
  refine O_nil ?_
  refine W_seq ?_
  refine W_true rfl ?_
  refine W_skip ?_
  refine W_seq ?_
  refine W_block ?_
  refine W_seq ?_
  refine W_reg rfl ?_
  refine O_qs (q_ia Tryz.runUnderlying199 Tryz.sizeOf3 rfl rfl (by decide)) ?_
  refine O_qs (q_load Tryz.isAgg3 rfl (rd_chunk (by repeat (first | exact List.Mem.head _ | apply List.Mem.tail)) rfl)) ?_
  refine O_qs (q_assign rfl) ?_
  refine O_nil ?_
  refine W_seq ?_
  refine W_reg rfl ?_
  refine O_qs (q_move rfl) ?_
  refine O_qs (q_move rfl) ?_
  refine O_qs (q_neq rfl rfl) ?_
  refine O_nil ?_
  refine W_cond rfl ?_ ?_
  · intro hc
    refine W_seq ?_
    refine W_reg rfl ?_
    refine O_qs (q_move rfl) ?_
    refine O_qs (q_assign rfl) ?_
    refine O_nil ?_
    refine W_ret ?_
    refine res1 (c0 := [[(b, _)]]) rfl rfl (by repeat (first | exact Pick.nil | exact Take.here | apply Pick.cons | apply Take.there)) rfl ?_
    unfold or3
    rw [if_neg hx, if_neg hy]
    exact ⟨rfl, rfl⟩
  intro hc
  have hz : z = 0 := by simpa using hc
  refine W_skip ?_
  refine W_reg rfl ?_
  refine O_qs (q_add (w64 (by omega)) rfl rfl) ?_
  refine O_qs (q_move rfl) ?_
  refine O_nil ?_
  refine L_unroll ?_
  refine W_seq ?_
  refine W_reg rfl ?_
  refine O_qs (q_lss rfl rfl) ?_
  refine O_nil ?_
  refine W_seq ?_
  refine W_false rfl ?_
  refine W_exit ?_
  refine W_seq ?_
  refine W_reg rfl ?_
  refine O_qs (q_move rfl) ?_
  refine O_qs (q_assign rfl) ?_
  refine O_nil ?_
  refine W_ret ?_
  refine res1 (c0 := [[(b, _)]]) rfl rfl (by repeat (first | exact Pick.nil | exact Take.here | apply Pick.cons | apply Take.there)) rfl ?_
  unfold or3
  rw [if_neg hx, if_neg hy, hz]
  exact ⟨rfl, rfl⟩

theorem d_compare (B : World) (x1 x2 x3 y1 y2 y3 : Int) : Ctr Tryz.prog 105 [.agg #[.int .i64 x1, .int .i64 x2, .int .i64 x3], .agg #[.int .i64 y1, .int .i64 y2, .int .i64 y3]] B []
    (fun u c => u = .int .i64 (or3 (cmpI x1 y1) (cmpI x2 y2) (cmpI x3 y3)) ∧ c = []) := by
  refine Ctr.intro (n := 22) Tryz.func105 rfl Tryz.ntmps105 (Nat.le_of_ble_eq_true rfl) ?_
  refine W_seq ?_
  refine W_reg rfl ?_
  refine O_es (e_box (cs := #[_, _, _]) rfl rfl) ?_
  rintro _ _ ⟨b2, rfl, rfl⟩
  refine O_es (e_box (cs := #[_, _, _]) rfl rfl) ?_
  rintro _ _ ⟨b3, rfl, rfl⟩
  refine O_qs (q_assign rfl) ?_
  refine O_nil ?_
  refine W_seq ?_
  refine W_draw [[], [0], [], [2], [0, 1, 2, 3], [], [5], [], [7], [0, 1, 2, 3, 4, 5, 6, 7, 8], [], [10], [], [12], [0, 1, 2, 3, 4, 5, 6, 7, 8, 9, 10, 11, 12, 13], [0, 1, 2, 3, 4, 5, 6, 7, 8, 9, 10, 11, 12, 13, 14], [0, 1, 2, 3, 4, 5, 6, 7, 8, 9, 10, 11, 12, 13, 14, 15], [0, 1, 2, 3, 4, 5, 6, 7, 8, 9, 10, 11, 12, 13, 14, 15, 16]] rfl rfl rfl ?_
  refine V.qs 0 rfl rfl (q_fa fa_51_0 rfl) ?_
  refine V.qs 1 rfl rfl (q_load (v := .int .i64 x1) Tryz.isAgg3 rfl (rd_chunk (by repeat (first | exact List.Mem.head _ | apply List.Mem.tail)) rfl)) ?_
  refine V.qs 2 rfl rfl (q_fa fa_51_0 rfl) ?_
  refine V.qs 3 rfl rfl (q_load (v := .int .i64 y1) Tryz.isAgg3 rfl (rd_chunk (by repeat (first | exact List.Mem.head _ | apply List.Mem.tail)) rfl)) ?_
  refine V.qs 5 rfl rfl (q_fa fa_51_1 rfl) ?_
  refine V.qs 6 rfl rfl (q_load (v := .int .i64 x2) Tryz.isAgg3 rfl (rd_chunk (by repeat (first | exact List.Mem.head _ | apply List.Mem.tail)) rfl)) ?_
  refine V.qs 7 rfl rfl (q_fa fa_51_1 rfl) ?_
  refine V.qs 8 rfl rfl (q_load (v := .int .i64 y2) Tryz.isAgg3 rfl (rd_chunk (by repeat (first | exact List.Mem.head _ | apply List.Mem.tail)) rfl)) ?_
  refine V.qs 10 rfl rfl (q_fa fa_51_2 rfl) ?_
  refine V.qs 11 rfl rfl (q_load (v := .int .i64 x3) Tryz.isAgg3 rfl (rd_chunk (by repeat (first | exact List.Mem.head _ | apply List.Mem.tail)) rfl)) ?_
  refine V.qs 12 rfl rfl (q_fa fa_51_2 rfl) ?_
  refine V.qs 13 rfl rfl (q_load (v := .int .i64 y3) Tryz.isAgg3 rfl (rd_chunk (by repeat (first | exact List.Mem.head _ | apply List.Mem.tail)) rfl)) ?_
  refine V.qs 4 rfl rfl (q_cf Tryz.call121 rfl (fun wd hwd => (d_Compare _ x1 y1)) (by repeat (first | exact Pick.nil | exact Take.here | apply Pick.cons | apply Take.there))) ?_
  refine V.qs 9 rfl rfl (q_cf Tryz.call121 rfl (fun wd hwd => (d_Compare _ x2 y2)) (by repeat (first | exact Pick.nil | exact Take.here | apply Pick.cons | apply Take.there))) ?_
  refine V.qs 14 rfl rfl (q_cf Tryz.call121 rfl (fun wd hwd => (d_Compare _ x3 y3)) (by repeat (first | exact Pick.nil | exact Take.here | apply Pick.cons | apply Take.there))) ?_
  refine V.e1s 15 [] rfl rfl rfl (e_bslice (zl := [.int .i64 0, .int .i64 0, .int .i64 0]) (cs := [_, _, _]) Tryz.runUnderlying199 Tryz.sizeOf3 Tryz.zeroValue3 rfl (by kernel_rfl) rfl rfl) ?_
  rintro _ _ ⟨b20, rfl, rfl⟩
  refine ⟨st_nil, ?_⟩
  refine V.qs 16 rfl rfl (q_cf Tryz.call120 rfl (fun wd hwd => (d_Or _ b20 (cmpI x1 y1) (cmpI x2 y2) (cmpI x3 y3))) (by repeat (first | exact Pick.nil | exact Take.here | apply Pick.cons | apply Take.there))) ?_
  refine V.qs 17 rfl rfl (q_assign rfl) ?_
  refine V.fin rfl ?_
  refine W_ret ?_
  refine res1 (c0 := []) rfl rfl (by repeat (first | exact Pick.nil | exact Take.here | apply Pick.cons | apply Take.there)) rfl ?_
  exact ⟨rfl, rfl⟩
end Go.Proofs.YtbfplncdmbjjhaaGreat
