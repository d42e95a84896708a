/-
  Walks: the document's core.
-/
import Derived.Test.YtbfplncdmbjjhaaGreatC
import Derived.Test.YtbfplncdmbjjhaaGreatR
set_option linter.unusedSimpArgs false
set_option linter.unusedVariables false
namespace Go.Proofs.YtbfplncdmbjjhaaGreat
open Go Go.SL

theorem ref13_Check (B : World) (ub mb : Nat) (x : Conf) (e n h r : Int) (v3 : Value) (R : Atom) (v : Value) (l : List (Plc × Int)) (hR : Row layO 147 R v l) (hl : l.length ≤ 1073741824) (hm : 0 ≤ mem l epochP ∧ mem l epochP < 18446744073709551616) :
    Ctr Tryz.prog 13 [ptr ub, ptr mb] B [uraw ub x e v3 n h r, oraw mb v, R] (fun u c => u = .tuple #[] ∧ c = [uraw ub x (epw (mem l epochP)) v3 n h r, oraw mb v, R]) := by
  refine Ctr.intro (n := 18) Tryz.func13 rfl Tryz.ntmps13 (Nat.le_of_ble_eq_true rfl) ?_
  refine W_seq ?_
  refine W_reg rfl ?_
  refine O_qs (q_move rfl) ?_
  refine O_qs (q_cf Tryz.call51 rfl (fun wd hwd => (ref13_Epoch _)) (by repeat (first | exact Pick.nil | exact Take.here | apply Pick.cons | apply Take.there))) ?_
  refine O_qs (q_cf Tryz.call58 rfl (fun wd hwd => (ref04_Get _ mb R v l epochP hR hl)) (by repeat (first | exact Pick.nil | exact Take.here | apply Pick.cons | apply Take.there))) ?_
  refine O_qs (q_assign rfl) ?_
  refine O_nil ?_
  refine W_seq ?_
  refine W_reg rfl ?_
  refine O_qs (q_move rfl) ?_
  refine O_qs (q_nil rfl) ?_
  refine O_qs (q_fa fa_45_1 rfl) ?_
  refine O_en (e_store Tryz.sizeOf3 rfl rfl rfl (by repeat (first | exact Upd.here | apply Upd.there)) rfl (by simp only [setAll, List.setIfInBounds_toArray, List.set_cons_succ, List.set_cons_zero, Nat.reduceAdd, Nat.zero_add] <;> rfl)) ?_
  rintro _ _ ⟨rfl, rfl⟩
  refine O_nil ?_
  refine W_seq ?_
  refine W_reg rfl ?_
  refine O_qs (q_move rfl) ?_
  refine O_qs (q_lss rfl rfl) ?_
  refine O_nil ?_
  refine W_cond rfl ?_ ?_
  · intro hc
    have h1 : mem l epochP < 9223372036854775808 := by simpa using hc
    refine W_reg rfl ?_
    refine O_qs (q_move rfl) ?_
    refine O_qs (q_move rfl) ?_
    refine O_qs (q_conv (c := mem l epochP) Tryz.runUnderlying23 Tryz.runUnderlying3 (w64 (by omega)) rfl) ?_
    refine O_qs (q_nil rfl) ?_
    refine O_qs (q_fa fa_45_1 rfl) ?_
    refine O_en (e_store Tryz.sizeOf3 rfl rfl rfl (by repeat (first | exact Upd.here | apply Upd.there)) rfl (by simp only [setAll, List.setIfInBounds_toArray, List.set_cons_succ, List.set_cons_zero, Nat.reduceAdd, Nat.zero_add] <;> rfl)) ?_
    rintro _ _ ⟨rfl, rfl⟩
    refine O_nil ?_
    refine res0 (c0 := [uraw ub x (mem l epochP) v3 n h r, oraw mb v, R]) rfl (by repeat (first | exact Pick.nil | exact Take.here | apply Pick.cons | apply Take.there)) rfl ?_
    unfold epw
    rw [if_pos h1]
    exact ⟨rfl, rfl⟩
  · intro hc
    have h1 : ¬ mem l epochP < 9223372036854775808 := by simpa using hc
    refine W_skip ?_
    refine res0 (c0 := [uraw ub x 0 v3 n h r, oraw mb v, R]) rfl (by repeat (first | exact Pick.nil | exact Take.here | apply Pick.cons | apply Take.there)) rfl ?_
    unfold epw
    rw [if_neg h1]
    exact ⟨rfl, rfl⟩

theorem ref13_Valid (B : World) (ub mb : Nat) (x : Conf) (e n h r : Int) (v3 : Value) (R : Atom) (v : Value) (l : List (Plc × Int)) (hR : Row layO 147 R v l) (hl : l.length ≤ 1073741824) :
    Ctr Tryz.prog 73 [ptr ub, ptr mb] B [uraw ub x e v3 n h r, oraw mb v, R]
      (fun u c => u = .bool (decide (mem l epochP = IntKind.u64.wrap e)) ∧ c = [uraw ub x e v3 n h (if mem l epochP = IntKind.u64.wrap e then r else inc r), oraw mb v, R]) := by
  refine Ctr.intro (n := 21) Tryz.func73 rfl Tryz.ntmps73 (Nat.le_of_ble_eq_true rfl) ?_
  refine W_seq ?_
  refine W_reg rfl ?_
  refine O_qs (q_assign rfl) ?_
  refine O_nil ?_
  refine W_seq ?_
  refine W_seq ?_
  refine W_draw [[], [], [0, 1], [], [3], [3, 4], [3, 4, 5], [3, 4, 5, 6], [0, 1, 2, 3, 4, 5, 6, 7]] rfl rfl rfl ?_
  refine V.qs 0 rfl rfl (q_move rfl) ?_
  refine V.qs 3 rfl rfl (q_move rfl) ?_
  refine V.qs 4 rfl rfl (q_nil rfl) ?_
  refine V.qs 5 rfl rfl (q_fa fa_45_1 rfl) ?_
  refine V.qs 6 rfl rfl (q_load Tryz.isAgg3 rfl (rd_chunk (by repeat (first | exact List.Mem.head _ | apply List.Mem.tail)) rfl)) ?_
  refine V.qs 7 rfl rfl (q_conv (c := IntKind.u64.wrap e) Tryz.runUnderlying3 Tryz.runUnderlying23 rfl rfl) ?_
  refine V.qs 1 rfl rfl (q_cf Tryz.call51 rfl (fun wd hwd => (ref13_Epoch _)) (by repeat (first | exact Pick.nil | exact Take.here | apply Pick.cons | apply Take.there))) ?_
  refine V.qs 2 rfl rfl (q_cf Tryz.call58 rfl (fun wd hwd => (ref04_Get _ mb R v l epochP hR hl)) (by repeat (first | exact Pick.nil | exact Take.here | apply Pick.cons | apply Take.there))) ?_
  refine V.qs 8 rfl rfl (q_eql rfl rfl) ?_
  refine V.fin rfl ?_
  refine W_cond rfl ?_ ?_
  · intro hc
    have h1 : mem l epochP = IntKind.u64.wrap e := by simpa using hc
    refine W_seq ?_
    refine W_reg rfl ?_
    refine O_qs (q_assign rfl) ?_
    refine O_nil ?_
    refine W_ret ?_
    refine res1 (c0 := [uraw ub x e v3 n h r, oraw mb v, R]) rfl rfl (by repeat (first | exact Pick.nil | exact Take.here | apply Pick.cons | apply Take.there)) rfl ?_
    rw [if_pos h1]
    simp [h1]
  · intro hc
    have h1 : ¬ mem l epochP = IntKind.u64.wrap e := by simpa using hc
    refine W_skip ?_
    refine W_seq ?_
    refine W_reg rfl ?_
    refine O_qs (q_move rfl) ?_
    refine O_qs (q_nil rfl) ?_
    refine O_qs (q_fa fa_45_4 rfl) ?_
    refine O_qs (q_load Tryz.isAgg3 rfl (rd_chunk (by repeat (first | exact List.Mem.head _ | apply List.Mem.tail)) rfl)) ?_
    refine O_qs (q_add (c := inc r) rfl rfl rfl) ?_
    refine O_qs (q_nil rfl) ?_
    refine O_qs (q_fa fa_45_4 rfl) ?_
    refine O_en (e_store Tryz.sizeOf3 rfl rfl rfl (by repeat (first | exact Upd.here | apply Upd.there)) rfl (by simp only [setAll, List.setIfInBounds_toArray, List.set_cons_succ, List.set_cons_zero, Nat.reduceAdd, Nat.zero_add] <;> rfl)) ?_
    rintro _ _ ⟨rfl, rfl⟩
    refine O_nil ?_
    refine W_seq ?_
    refine W_reg rfl ?_
    refine O_qs (q_assign rfl) ?_
    refine O_nil ?_
    refine W_ret ?_
    refine res1 (c0 := [uraw ub x e v3 n h (inc r), oraw mb v, R]) rfl rfl (by repeat (first | exact Pick.nil | exact Take.here | apply Pick.cons | apply Take.there)) rfl ?_
    rw [if_neg h1]
    simp [h1]

theorem ref13_To (B : World) (ub : Nat) (x : Conf) (e n h r : Int) (v3 : Value) (s : Int) :
    Ctr Tryz.prog 52 [ptr ub, .int .i64 s] B [uraw ub x e v3 n h r] (fun u c => u = .int .u64 (lword false s e) ∧ c = [uraw ub x e v3 n h r]) := by
  refine Ctr.intro (n := 12) Tryz.func52 rfl Tryz.ntmps52 (Nat.le_of_ble_eq_true rfl) ?_
  refine W_seq ?_
  refine W_reg rfl ?_
  refine O_qs (q_assign rfl) ?_
  refine O_nil ?_
  refine W_seq ?_
  refine W_reg rfl ?_
  refine O_qs (q_move rfl) ?_
  refine O_qs (q_move rfl) ?_
  refine O_qs (q_nil rfl) ?_
  refine O_qs (q_fa fa_45_1 rfl) ?_
  refine O_qs (q_load Tryz.isAgg3 rfl (rd_chunk (by repeat (first | exact List.Mem.head _ | apply List.Mem.tail)) rfl)) ?_
  refine O_qs (q_build rfl (bld_150 (cs := [_, _, _]) rfl)) ?_
  refine O_qs (q_cf Tryz.call87 rfl (fun wd hwd => (ref02_Word _ false s e)) (by repeat (first | exact Pick.nil | exact Take.here | apply Pick.cons | apply Take.there))) ?_
  refine O_qs (q_assign rfl) ?_
  refine O_nil ?_
  refine W_ret ?_
  refine res1 (c0 := [uraw ub x e v3 n h r]) rfl rfl (by repeat (first | exact Pick.nil | exact Take.here | apply Pick.cons | apply Take.there)) rfl ?_
  exact ⟨rfl, rfl⟩

theorem ref13_Mark (B : World) (ub : Nat) (x : Conf) (e n h r : Int) (v3 : Value) (w s : Int) (hw : 0 ≤ w ∧ w < 18446744073709551616) :
    Ctr Tryz.prog 53 [ptr ub, .int .u64 w, .int .i64 s] B [uraw ub x e v3 n h r] (fun u c => u = .int .u64 (if marked w then w else lword true s e) ∧ c = [uraw ub x e v3 n h r]) := by
  refine Ctr.intro (n := 17) Tryz.func53 rfl Tryz.ntmps53 (Nat.le_of_ble_eq_true rfl) ?_
  refine W_seq ?_
  refine W_reg rfl ?_
  refine O_qs (q_assign rfl) ?_
  refine O_nil ?_
  refine W_seq ?_
  refine W_seq ?_
  refine W_reg rfl ?_
  refine O_qs (q_move rfl) ?_
  refine O_qs (q_cf Tryz.call88 rfl (fun wd hwd => (ref13_Marked _ w hw)) (by repeat (first | exact Pick.nil | exact Take.here | apply Pick.cons | apply Take.there))) ?_
  refine O_nil ?_
  refine W_cond rfl ?_ ?_
  · intro hc
    refine W_seq ?_
    refine W_reg rfl ?_
    refine O_qs (q_move rfl) ?_
    refine O_qs (q_assign rfl) ?_
    refine O_nil ?_
    refine W_ret ?_
    refine res1 (c0 := [uraw ub x e v3 n h r]) rfl rfl (by repeat (first | exact Pick.nil | exact Take.here | apply Pick.cons | apply Take.there)) rfl ?_
    rw [if_pos hc]
    exact ⟨rfl, rfl⟩
  · intro hc
    refine W_skip ?_
    refine W_seq ?_
    refine W_reg rfl ?_
    refine O_qs (q_move rfl) ?_
    refine O_qs (q_move rfl) ?_
    refine O_qs (q_nil rfl) ?_
    refine O_qs (q_fa fa_45_1 rfl) ?_
    refine O_qs (q_load Tryz.isAgg3 rfl (rd_chunk (by repeat (first | exact List.Mem.head _ | apply List.Mem.tail)) rfl)) ?_
    refine O_qs (q_build rfl (bld_150 (cs := [_, _, _]) rfl)) ?_
    refine O_qs (q_cf Tryz.call87 rfl (fun wd hwd => (ref02_Word _ true s e)) (by repeat (first | exact Pick.nil | exact Take.here | apply Pick.cons | apply Take.there))) ?_
    refine O_qs (q_assign rfl) ?_
    refine O_nil ?_
    refine W_ret ?_
    refine res1 (c0 := [uraw ub x e v3 n h r]) rfl rfl (by repeat (first | exact Pick.nil | exact Take.here | apply Pick.cons | apply Take.there)) rfl ?_
    rw [hc]
    exact ⟨rfl, rfl⟩

end Go.Proofs.YtbfplncdmbjjhaaGreat
