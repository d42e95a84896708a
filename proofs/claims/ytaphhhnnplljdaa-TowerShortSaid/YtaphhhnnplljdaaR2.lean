/-
  Walks: the document's core.
-/
import Derived.Test.YtaphhhnnplljdaaC
import Derived.Test.YtaphhhnnplljdaaR
set_option linter.unusedSimpArgs false
set_option linter.unusedVariables false
namespace Go.Proofs.Ytaphhhnnplljdaa
open Go Go.SL

theorem ref13_Check (B : World) (ub mb : Nat) (x : Conf) (e n h r : Int) (v3 : Value) (R : Atom) (v : Value) (l : List (Plc × Int)) (hR : Row layO 165 R v l) (hl : l.length ≤ 1073741824) (hm : 0 ≤ mem l epochP ∧ mem l epochP < 18446744073709551616) :
    Ctr Try.prog 59 [ptr ub, ptr mb] B [uraw ub x e v3 n h r, oraw mb v, R] (fun u c => u = .tuple #[] ∧ c = [uraw ub x (epw (mem l epochP)) v3 n h r, oraw mb v, R]) := by
  refine Ctr.intro (n := 18) Try.func59 rfl Try.ntmps59 (Nat.le_of_ble_eq_true rfl) ?_
  refine W_seq ?_
  refine W_reg rfl ?_
  refine O_qs (q_move rfl) ?_
  refine O_qs (q_cf Try.call62 rfl (fun wd hwd => (ref13_Epoch _)) (by repeat (first | exact Pick.nil | exact Take.here | apply Pick.cons | apply Take.there))) ?_
  refine O_qs (q_cf Try.call63 rfl (fun wd hwd => (ref04_Get _ mb R v l epochP hR hl)) (by repeat (first | exact Pick.nil | exact Take.here | apply Pick.cons | apply Take.there))) ?_
  refine O_qs (q_assign rfl) ?_
  refine O_nil ?_
  refine W_seq ?_
  refine W_reg rfl ?_
  refine O_qs (q_move rfl) ?_
  refine O_qs (q_nil rfl) ?_
  refine O_qs (q_fa fa_34_1 rfl) ?_
  refine O_en (e_store Try.sizeOf3 rfl rfl rfl (by repeat (first | exact Upd.here | apply Upd.there)) rfl (by simp only [setAll, List.setIfInBounds_toArray, List.set_cons_succ, List.set_cons_zero, Nat.reduceAdd, Nat.zero_add] <;> rfl)) ?_
  rintro _ _ ⟨rfl, rfl⟩
  refine O_nil ?_
  refine W_seq ?_
  refine W_reg rfl ?_
  refine O_qs (q_move rfl) ?_
  refine O_qs (q_lss rfl rfl) ?_
  refine O_nil ?_
  refine W_cond rfl ?_ ?_
  · intro hc
    have h1 : mem l epochP < 9223372036854775808 := by simpa using hc
    refine W_reg rfl ?_
    refine O_qs (q_move rfl) ?_
    refine O_qs (q_move rfl) ?_
    refine O_qs (q_conv (c := mem l epochP) Try.runUnderlying41 Try.runUnderlying3 (w64 (by omega)) rfl) ?_
    refine O_qs (q_nil rfl) ?_
    refine O_qs (q_fa fa_34_1 rfl) ?_
    refine O_en (e_store Try.sizeOf3 rfl rfl rfl (by repeat (first | exact Upd.here | apply Upd.there)) rfl (by simp only [setAll, List.setIfInBounds_toArray, List.set_cons_succ, List.set_cons_zero, Nat.reduceAdd, Nat.zero_add] <;> rfl)) ?_
    rintro _ _ ⟨rfl, rfl⟩
    refine O_nil ?_
    refine res0 (c0 := [uraw ub x (mem l epochP) v3 n h r, oraw mb v, R]) rfl (by repeat (first | exact Pick.nil | exact Take.here | apply Pick.cons | apply Take.there)) rfl ?_
    unfold epw
    rw [if_pos h1]
    exact ⟨rfl, rfl⟩
  · intro hc
    have h1 : ¬ mem l epochP < 9223372036854775808 := by simpa using hc
    refine W_skip ?_
    refine res0 (c0 := [uraw ub x 0 v3 n h r, oraw mb v, R]) rfl (by repeat (first | exact Pick.nil | exact Take.here | apply Pick.cons | apply Take.there)) rfl ?_
    unfold epw
    rw [if_neg h1]
    exact ⟨rfl, rfl⟩

theorem ref13_Valid (B : World) (ub mb : Nat) (x : Conf) (e n h r : Int) (v3 : Value) (R : Atom) (v : Value) (l : List (Plc × Int)) (hR : Row layO 165 R v l) (hl : l.length ≤ 1073741824) :
    Ctr Try.prog 60 [ptr ub, ptr mb] B [uraw ub x e v3 n h r, oraw mb v, R]
      (fun u c => u = .bool (decide (mem l epochP = IntKind.u64.wrap e)) ∧ c = [uraw ub x e v3 n h (if mem l epochP = IntKind.u64.wrap e then r else inc r), oraw mb v, R]) := by
  refine Ctr.intro (n := 21) Try.func60 rfl Try.ntmps60 (Nat.le_of_ble_eq_true rfl) ?_
  refine W_seq ?_
  refine W_reg rfl ?_
  refine O_qs (q_assign rfl) ?_
  refine O_nil ?_
  refine W_seq ?_
  refine W_seq ?_
  refine W_draw [[], [], [0, 1], [], [3], [3, 4], [3, 4, 5], [3, 4, 5, 6], [0, 1, 2, 3, 4, 5, 6, 7]] rfl rfl rfl ?_
  refine V.qs 0 rfl rfl (q_move rfl) ?_
  refine V.qs 3 rfl rfl (q_move rfl) ?_
  refine V.qs 4 rfl rfl (q_nil rfl) ?_
  refine V.qs 5 rfl rfl (q_fa fa_34_1 rfl) ?_
  refine V.qs 6 rfl rfl (q_load Try.isAgg3 rfl (rd_chunk (by repeat (first | exact List.Mem.head _ | apply List.Mem.tail)) rfl)) ?_
  refine V.qs 7 rfl rfl (q_conv (c := IntKind.u64.wrap e) Try.runUnderlying3 Try.runUnderlying41 rfl rfl) ?_
  refine V.qs 1 rfl rfl (q_cf Try.call62 rfl (fun wd hwd => (ref13_Epoch _)) (by repeat (first | exact Pick.nil | exact Take.here | apply Pick.cons | apply Take.there))) ?_
  refine V.qs 2 rfl rfl (q_cf Try.call63 rfl (fun wd hwd => (ref04_Get _ mb R v l epochP hR hl)) (by repeat (first | exact Pick.nil | exact Take.here | apply Pick.cons | apply Take.there))) ?_
  refine V.qs 8 rfl rfl (q_eql rfl rfl) ?_
  refine V.fin rfl ?_
  refine W_cond rfl ?_ ?_
  · intro hc
    have h1 : mem l epochP = IntKind.u64.wrap e := by simpa using hc
    refine W_seq ?_
    refine W_reg rfl ?_
    refine O_qs (q_assign rfl) ?_
    refine O_nil ?_
    refine W_ret ?_
    refine res1 (c0 := [uraw ub x e v3 n h r, oraw mb v, R]) rfl rfl (by repeat (first | exact Pick.nil | exact Take.here | apply Pick.cons | apply Take.there)) rfl ?_
    rw [if_pos h1]
    simp [h1]
  · intro hc
    have h1 : ¬ mem l epochP = IntKind.u64.wrap e := by simpa using hc
    refine W_skip ?_
    refine W_seq ?_
    refine W_reg rfl ?_
    refine O_qs (q_move rfl) ?_
    refine O_qs (q_nil rfl) ?_
    refine O_qs (q_fa fa_34_4 rfl) ?_
    refine O_qs (q_load Try.isAgg3 rfl (rd_chunk (by repeat (first | exact List.Mem.head _ | apply List.Mem.tail)) rfl)) ?_
    refine O_qs (q_add (c := inc r) rfl rfl rfl) ?_
    refine O_qs (q_nil rfl) ?_
    refine O_qs (q_fa fa_34_4 rfl) ?_
    refine O_en (e_store Try.sizeOf3 rfl rfl rfl (by repeat (first | exact Upd.here | apply Upd.there)) rfl (by simp only [setAll, List.setIfInBounds_toArray, List.set_cons_succ, List.set_cons_zero, Nat.reduceAdd, Nat.zero_add] <;> rfl)) ?_
    rintro _ _ ⟨rfl, rfl⟩
    refine O_nil ?_
    refine W_seq ?_
    refine W_reg rfl ?_
    refine O_qs (q_assign rfl) ?_
    refine O_nil ?_
    refine W_ret ?_
    refine res1 (c0 := [uraw ub x e v3 n h (inc r), oraw mb v, R]) rfl rfl (by repeat (first | exact Pick.nil | exact Take.here | apply Pick.cons | apply Take.there)) rfl ?_
    rw [if_neg h1]
    simp [h1]

theorem ref13_To (B : World) (ub : Nat) (x : Conf) (e n h r : Int) (v3 : Value) (s : Int) :
    Ctr Try.prog 64 [ptr ub, .int .i64 s] B [uraw ub x e v3 n h r] (fun u c => u = .int .u64 (lword false s e) ∧ c = [uraw ub x e v3 n h r]) := by
  refine Ctr.intro (n := 12) Try.func64 rfl Try.ntmps64 (Nat.le_of_ble_eq_true rfl) ?_
  refine W_seq ?_
  refine W_reg rfl ?_
  refine O_qs (q_assign rfl) ?_
  refine O_nil ?_
  refine W_seq ?_
  refine W_reg rfl ?_
  refine O_qs (q_move rfl) ?_
  refine O_qs (q_move rfl) ?_
  refine O_qs (q_nil rfl) ?_
  refine O_qs (q_fa fa_34_1 rfl) ?_
  refine O_qs (q_load Try.isAgg3 rfl (rd_chunk (by repeat (first | exact List.Mem.head _ | apply List.Mem.tail)) rfl)) ?_
  refine O_qs (q_build rfl (bld_128 (cs := [_, _, _]) rfl)) ?_
  refine O_qs (q_cf Try.call93 rfl (fun wd hwd => (ref02_Word _ false s e)) (by repeat (first | exact Pick.nil | exact Take.here | apply Pick.cons | apply Take.there))) ?_
  refine O_qs (q_assign rfl) ?_
  refine O_nil ?_
  refine W_ret ?_
  refine res1 (c0 := [uraw ub x e v3 n h r]) rfl rfl (by repeat (first | exact Pick.nil | exact Take.here | apply Pick.cons | apply Take.there)) rfl ?_
  exact ⟨rfl, rfl⟩

theorem ref13_Mark (B : World) (ub : Nat) (x : Conf) (e n h r : Int) (v3 : Value) (w s : Int) (hw : 0 ≤ w ∧ w < 18446744073709551616) :
    Ctr Try.prog 65 [ptr ub, .int .u64 w, .int .i64 s] B [uraw ub x e v3 n h r] (fun u c => u = .int .u64 (if marked w then w else lword true s e) ∧ c = [uraw ub x e v3 n h r]) := by
  refine Ctr.intro (n := 17) Try.func65 rfl Try.ntmps65 (Nat.le_of_ble_eq_true rfl) ?_
  refine W_seq ?_
  refine W_reg rfl ?_
  refine O_qs (q_assign rfl) ?_
  refine O_nil ?_
  refine W_seq ?_
  refine W_seq ?_
  refine W_reg rfl ?_
  refine O_qs (q_move rfl) ?_
  refine O_qs (q_cf Try.call94 rfl (fun wd hwd => (ref13_Marked _ w hw)) (by repeat (first | exact Pick.nil | exact Take.here | apply Pick.cons | apply Take.there))) ?_
  refine O_nil ?_
  refine W_cond rfl ?_ ?_
  · intro hc
    refine W_seq ?_
    refine W_reg rfl ?_
    refine O_qs (q_move rfl) ?_
    refine O_qs (q_assign rfl) ?_
    refine O_nil ?_
    refine W_ret ?_
    refine res1 (c0 := [uraw ub x e v3 n h r]) rfl rfl (by repeat (first | exact Pick.nil | exact Take.here | apply Pick.cons | apply Take.there)) rfl ?_
    rw [if_pos hc]
    exact ⟨rfl, rfl⟩
  · intro hc
    refine W_skip ?_
    refine W_seq ?_
    refine W_reg rfl ?_
    refine O_qs (q_move rfl) ?_
    refine O_qs (q_move rfl) ?_
    refine O_qs (q_nil rfl) ?_
    refine O_qs (q_fa fa_34_1 rfl) ?_
    refine O_qs (q_load Try.isAgg3 rfl (rd_chunk (by repeat (first | exact List.Mem.head _ | apply List.Mem.tail)) rfl)) ?_
    refine O_qs (q_build rfl (bld_128 (cs := [_, _, _]) rfl)) ?_
    refine O_qs (q_cf Try.call93 rfl (fun wd hwd => (ref02_Word _ true s e)) (by repeat (first | exact Pick.nil | exact Take.here | apply Pick.cons | apply Take.there))) ?_
    refine O_qs (q_assign rfl) ?_
    refine O_nil ?_
    refine W_ret ?_
    refine res1 (c0 := [uraw ub x e v3 n h r]) rfl rfl (by repeat (first | exact Pick.nil | exact Take.here | apply Pick.cons | apply Take.there)) rfl ?_
    rw [hc]
    exact ⟨rfl, rfl⟩

theorem ref13_Drop (B : World) (ub : Nat) (x : Conf) (e n h r : Int) (R : Atom) (v : Value) (L : List SL.Entry) (hR : Row layE 63 R v L) (hl : L.length ≤ 1073741824) :
    Ctr Try.prog 69 [ptr ub] B [uraw ub x e v n h r, R]
      (fun u c => ∃ R' v' n', Row layE 63 R' v' (if 0 < h then L ++ [⟨h, 0, 0⟩] else L) ∧ u = .tuple #[] ∧ c = [uraw ub x e v' n' (if 0 < h then 0 else h) r, R']) := by
  refine Ctr.intro (n := 19) Try.func69 rfl Try.ntmps69 (Nat.le_of_ble_eq_true rfl) ?_
  refine W_seq ?_
  refine W_reg rfl ?_
  refine O_qs (q_move rfl) ?_
  refine O_qs (q_nil rfl) ?_
  refine O_qs (q_fa fa_34_3 rfl) ?_
  refine O_qs (q_load Try.isAgg3 rfl (rd_chunk (by repeat (first | exact List.Mem.head _ | apply List.Mem.tail)) rfl)) ?_
  refine O_qs (q_gtr rfl rfl) ?_
  refine O_nil ?_
  refine W_cond rfl ?_ ?_
  · intro hc
    have h1 : 0 < h := by simpa using hc
    refine W_seq ?_
    refine W_draw [[], [0], [0, 1], [], [3], [3, 4], [3, 4, 5], [3, 4, 5, 6], [0, 1, 2, 3, 4, 5, 6, 7]] rfl rfl rfl ?_
    refine V.qs 0 rfl rfl (q_move rfl) ?_
    refine V.qs 1 rfl rfl (q_nil rfl) ?_
    refine V.qs 2 rfl rfl (q_fa fa_34_2 rfl) ?_
    refine V.qs 3 rfl rfl (q_move rfl) ?_
    refine V.qs 4 rfl rfl (q_nil rfl) ?_
    refine V.qs 5 rfl rfl (q_fa fa_34_3 rfl) ?_
    refine V.qs 6 rfl rfl (q_load Try.isAgg3 rfl (rd_chunk (by repeat (first | exact List.Mem.head _ | apply List.Mem.tail)) rfl)) ?_
    refine V.qs 7 rfl rfl (q_build rfl (bld_63 (cs := [_, _, _]) rfl)) ?_
    refine V.e1s 8 [] rfl rfl rfl (e_cf Try.call97 rfl (fun wd hwd => (ref11_Push _ ub x e n h r R v L ⟨h, 0, 0⟩ hR hl)) (by repeat (first | exact Pick.nil | exact Take.here | apply Pick.cons | apply Take.there))) ?_
    rintro _ _ ⟨_, ⟨R', v', n', hR', rfl, rfl⟩, rfl⟩
    refine ⟨st_nil, ?_⟩
    refine V.fin rfl ?_
    refine W_reg rfl ?_
    refine O_qs (q_move rfl) ?_
    refine O_qs (q_nil rfl) ?_
    refine O_qs (q_fa fa_34_3 rfl) ?_
    refine O_en (e_store Try.sizeOf3 rfl rfl rfl (by repeat (first | exact Upd.here | apply Upd.there)) rfl (by simp only [setAll, List.setIfInBounds_toArray, List.set_cons_succ, List.set_cons_zero, Nat.reduceAdd, Nat.zero_add] <;> rfl)) ?_
    rintro _ _ ⟨rfl, rfl⟩
    refine O_nil ?_
    refine res0 (c0 := [uraw ub x e v' n' 0 r, R']) rfl (by repeat (first | exact Pick.nil | exact Take.here | apply Pick.cons | apply Take.there)) rfl ?_
    rw [if_pos h1, if_pos h1]
    exact ⟨R', v', n', hR', rfl, rfl⟩
  · intro hc
    have h1 : ¬ 0 < h := by simpa using hc
    refine W_skip ?_
    refine res0 (c0 := [uraw ub x e v n h r, R]) rfl (by repeat (first | exact Pick.nil | exact Take.here | apply Pick.cons | apply Take.there)) rfl ?_
    rw [if_neg h1, if_neg h1]
    exact ⟨R, v, n, hR, rfl, rfl⟩
end Go.Proofs.Ytaphhhnnplljdaa
