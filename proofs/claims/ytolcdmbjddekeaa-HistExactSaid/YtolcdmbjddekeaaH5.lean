/-
  The law 'ahead is an order', on top of its anchor.
-/
import Derived.Test.YtolcdmbjddekeaaH4
set_option linter.unusedSimpArgs false
set_option linter.unusedVariables false
namespace Go.Proofs.Ytolcdmbjddekeaa
open Go Go.SL

theorem base1 {B wd : World} {own : List Nat} {ctx : Ctx} {b : Nat} {a : HCall} (hm : [(b, .cells (HCall.l a).toArray 44 (0, 0))] ∈ ctx) (hwd : Inv B own ctx wd) : BaseRow layH wd (some ⟨b, 0, none⟩) [a] :=
  Row.base (e := 44) (n := 1) (cap := 1) (.inr ⟨b, 1, (HCall.l a).toArray, rfl, rfl, Nat.le_refl _, by decide, rfl, rfl⟩) hm hwd

theorem good1 (a : HCall) : goodL [a] = !a.bad := by
  simp [goodL, okAt, List.range_succ]

theorem bad_ahead {a : HCall} (h : a.bad = false) : a.ahead a = false := by
  simp [HCall.bad, HCall.ahead] at h ⊢
  omega
theorem not_both {a b : HCall} (h1 : a.bad = false) (h2 : b.bad = false) (h : a.ahead b = true) : b.ahead a = false := by
  simp [HCall.bad, HCall.ahead] at h1 h2 h ⊢
  omega
theorem ahead_trans {a b c : HCall} (h2 : b.bad = false) (h : a.ahead b = true) (h' : b.ahead c = true) : a.ahead c = true := by
  simp [HCall.bad, HCall.ahead] at h2 h h' ⊢
  omega
theorem ahead_four {a b c d : HCall} (h : a.ahead b = true) (h' : c.ahead d = true) : a.ahead d = true ∨ c.ahead b = true := by
  simp [HCall.ahead] at h h' ⊢
  omega
theorem hist_HistAhead (haw : ∀ w, Ctr Try.prog 6 [] w [] (fun u k => u = .bool true ∧ k = [])) (B : World) (a b c d : HCall) :
    Ctr Try.prog 4 [a.v, b.v, c.v, d.v] B [] (fun u k => u = .bool true ∧ k = []) := by
  refine Ctr.intro (n := 80) Try.func4 rfl Try.ntmps4 (Nat.le_of_ble_eq_true rfl) ?_
  refine W_seq ?_
  refine W_reg rfl ?_
  refine O_es (e_box (cs := #[_, _, _, _, _, _, _, _, _, _, _]) rfl rfl) ?_
  rintro _ _ ⟨b4, rfl, rfl⟩
  refine O_es (e_box (cs := #[_, _, _, _, _, _, _, _, _, _, _]) rfl rfl) ?_
  rintro _ _ ⟨b5, rfl, rfl⟩
  refine O_es (e_box (cs := #[_, _, _, _, _, _, _, _, _, _, _]) rfl rfl) ?_
  rintro _ _ ⟨b6, rfl, rfl⟩
  refine O_es (e_box (cs := #[_, _, _, _, _, _, _, _, _, _, _]) rfl rfl) ?_
  rintro _ _ ⟨b7, rfl, rfl⟩
  refine O_qs (q_assign rfl) ?_
  refine O_nil ?_
  refine W_seq ?_
  refine W_seq ?_
  refine W_reg rfl ?_
  refine O_qs (q_cf Try.call6 rfl (fun wd hwd => (haw _)) (by repeat (first | exact Pick.nil | exact Take.here | apply Pick.cons | apply Take.there))) ?_
  refine O_qs (q_not rfl) ?_
  refine O_nil ?_
  refine W_false rfl ?_
  refine W_skip ?_
  refine W_seq ?_
  refine W_seq ?_
  refine W_reg rfl ?_
  refine O_qs (q_loadN (vs := [_, _, _, _, _, _, _, _, _, _, _]) Try.isAgg44 Try.sizeOf44 rfl (rd_range (by repeat (first | exact List.Mem.head _ | apply List.Mem.tail)) rfl)) ?_
  refine O_es (e_bslice (zl := [.int .i64 0, .int .i64 0, .int .i64 0, .int .u64 0, .int .u64 0, .int .i64 0, .int .i64 0, .int .i64 0, .int .i64 0, .bool false, .int .u64 0]) (cs := [_, _, _, _, _, _, _, _, _, _, _]) Try.runUnderlying35 Try.sizeOf44 Try.zeroValue44 rfl (by kernel_rfl) rfl rfl) ?_
  rintro _ _ ⟨b12, rfl, rfl⟩
  refine O_qs (q_cf Try.call10 rfl (fun wd hwd => (hist_Check wd (some ⟨b12, 0, none⟩) 1 1 [a] rfl (base1 (by repeat (first | exact List.Mem.head _ | apply List.Mem.tail)) hwd) (Nat.le_of_ble_eq_true rfl) (Nat.le_of_ble_eq_true rfl))) (by repeat (first | exact Pick.nil | exact Take.here | apply Pick.cons | apply Take.there))) ?_
  refine O_qs (q_neq rfl rfl) ?_
  refine O_qs (q_move rfl) ?_
  rw [good1 a]
  cases ha : a.bad with
  | true =>
    refine O_qs (QY.skip rfl rfl rfl rfl) ?_
    refine O_qs (QY.skip rfl rfl rfl rfl) ?_
    refine O_qs (QY.skip rfl rfl rfl rfl) ?_
    refine O_qs (QY.skip rfl rfl rfl rfl) ?_
    refine O_qs (q_pick_t rfl rfl) ?_
    refine O_qs (q_move rfl) ?_
    refine O_qs (QY.skip rfl rfl rfl rfl) ?_
    refine O_qs (QY.skip rfl rfl rfl rfl) ?_
    refine O_qs (QY.skip rfl rfl rfl rfl) ?_
    refine O_qs (QY.skip rfl rfl rfl rfl) ?_
    refine O_qs (q_pick_t rfl rfl) ?_
    refine O_qs (q_move rfl) ?_
    refine O_qs (QY.skip rfl rfl rfl rfl) ?_
    refine O_qs (QY.skip rfl rfl rfl rfl) ?_
    refine O_qs (QY.skip rfl rfl rfl rfl) ?_
    refine O_qs (QY.skip rfl rfl rfl rfl) ?_
    refine O_qs (q_pick_t rfl rfl) ?_
    refine O_nil ?_
    refine W_true rfl ?_
    refine W_seq ?_
    refine W_reg rfl ?_
    refine O_qs (q_assign rfl) ?_
    refine O_nil ?_
    refine W_ret ?_
    refine res1 (c0 := []) rfl rfl (by repeat (first | exact Pick.nil | exact Take.here | apply Pick.cons | apply Take.there)) rfl ?_
    exact ⟨rfl, rfl⟩
  | false =>
    refine O_qs (QY.guard rfl rfl rfl (q_loadN (vs := [_, _, _, _, _, _, _, _, _, _, _]) Try.isAgg44 Try.sizeOf44 rfl (rd_range (by repeat (first | exact List.Mem.head _ | apply List.Mem.tail)) rfl))) ?_
    refine O_es (EY.guard rfl rfl rfl (e_bslice (zl := [.int .i64 0, .int .i64 0, .int .i64 0, .int .u64 0, .int .u64 0, .int .i64 0, .int .i64 0, .int .i64 0, .int .i64 0, .bool false, .int .u64 0]) (cs := [_, _, _, _, _, _, _, _, _, _, _]) Try.runUnderlying35 Try.sizeOf44 Try.zeroValue44 rfl (by kernel_rfl) rfl rfl)) ?_
    rintro _ _ ⟨b17, rfl, rfl⟩
    refine O_qs (QY.guard rfl rfl rfl (q_cf Try.call10 rfl (fun wd hwd => (hist_Check wd (some ⟨b17, 0, none⟩) 1 1 [b] rfl (base1 (by repeat (first | exact List.Mem.head _ | apply List.Mem.tail)) hwd) (Nat.le_of_ble_eq_true rfl) (Nat.le_of_ble_eq_true rfl))) (by repeat (first | exact Pick.nil | exact Take.here | apply Pick.cons | apply Take.there)))) ?_
    refine O_qs (QY.guard rfl rfl rfl (q_neq rfl rfl)) ?_
    refine O_qs (q_pick_f rfl rfl) ?_
    refine O_qs (q_move rfl) ?_
    rw [good1 b]
    cases hb : b.bad with
    | true =>
      refine O_qs (QY.skip rfl rfl rfl rfl) ?_
      refine O_qs (QY.skip rfl rfl rfl rfl) ?_
      refine O_qs (QY.skip rfl rfl rfl rfl) ?_
      refine O_qs (QY.skip rfl rfl rfl rfl) ?_
      refine O_qs (q_pick_t rfl rfl) ?_
      refine O_qs (q_move rfl) ?_
      refine O_qs (QY.skip rfl rfl rfl rfl) ?_
      refine O_qs (QY.skip rfl rfl rfl rfl) ?_
      refine O_qs (QY.skip rfl rfl rfl rfl) ?_
      refine O_qs (QY.skip rfl rfl rfl rfl) ?_
      refine O_qs (q_pick_t rfl rfl) ?_
      refine O_nil ?_
      refine W_true rfl ?_
      refine W_seq ?_
      refine W_reg rfl ?_
      refine O_qs (q_assign rfl) ?_
      refine O_nil ?_
      refine W_ret ?_
      refine res1 (c0 := []) rfl rfl (by repeat (first | exact Pick.nil | exact Take.here | apply Pick.cons | apply Take.there)) rfl ?_
      exact ⟨rfl, rfl⟩
    | false =>
      refine O_qs (QY.guard rfl rfl rfl (q_loadN (vs := [_, _, _, _, _, _, _, _, _, _, _]) Try.isAgg44 Try.sizeOf44 rfl (rd_range (by repeat (first | exact List.Mem.head _ | apply List.Mem.tail)) rfl))) ?_
      refine O_es (EY.guard rfl rfl rfl (e_bslice (zl := [.int .i64 0, .int .i64 0, .int .i64 0, .int .u64 0, .int .u64 0, .int .i64 0, .int .i64 0, .int .i64 0, .int .i64 0, .bool false, .int .u64 0]) (cs := [_, _, _, _, _, _, _, _, _, _, _]) Try.runUnderlying35 Try.sizeOf44 Try.zeroValue44 rfl (by kernel_rfl) rfl rfl)) ?_
      rintro _ _ ⟨b23, rfl, rfl⟩
      refine O_qs (QY.guard rfl rfl rfl (q_cf Try.call10 rfl (fun wd hwd => (hist_Check wd (some ⟨b23, 0, none⟩) 1 1 [c] rfl (base1 (by repeat (first | exact List.Mem.head _ | apply List.Mem.tail)) hwd) (Nat.le_of_ble_eq_true rfl) (Nat.le_of_ble_eq_true rfl))) (by repeat (first | exact Pick.nil | exact Take.here | apply Pick.cons | apply Take.there)))) ?_
      refine O_qs (QY.guard rfl rfl rfl (q_neq rfl rfl)) ?_
      refine O_qs (q_pick_f rfl rfl) ?_
      refine O_qs (q_move rfl) ?_
      rw [good1 c]
      cases hc : c.bad with
      | true =>
        refine O_qs (QY.skip rfl rfl rfl rfl) ?_
        refine O_qs (QY.skip rfl rfl rfl rfl) ?_
        refine O_qs (QY.skip rfl rfl rfl rfl) ?_
        refine O_qs (QY.skip rfl rfl rfl rfl) ?_
        refine O_qs (q_pick_t rfl rfl) ?_
        refine O_nil ?_
        refine W_true rfl ?_
        refine W_seq ?_
        refine W_reg rfl ?_
        refine O_qs (q_assign rfl) ?_
        refine O_nil ?_
        refine W_ret ?_
        refine res1 (c0 := []) rfl rfl (by repeat (first | exact Pick.nil | exact Take.here | apply Pick.cons | apply Take.there)) rfl ?_
        exact ⟨rfl, rfl⟩
      | false =>
        refine O_qs (QY.guard rfl rfl rfl (q_loadN (vs := [_, _, _, _, _, _, _, _, _, _, _]) Try.isAgg44 Try.sizeOf44 rfl (rd_range (by repeat (first | exact List.Mem.head _ | apply List.Mem.tail)) rfl))) ?_
        refine O_es (EY.guard rfl rfl rfl (e_bslice (zl := [.int .i64 0, .int .i64 0, .int .i64 0, .int .u64 0, .int .u64 0, .int .i64 0, .int .i64 0, .int .i64 0, .int .i64 0, .bool false, .int .u64 0]) (cs := [_, _, _, _, _, _, _, _, _, _, _]) Try.runUnderlying35 Try.sizeOf44 Try.zeroValue44 rfl (by kernel_rfl) rfl rfl)) ?_
        rintro _ _ ⟨b29, rfl, rfl⟩
        refine O_qs (QY.guard rfl rfl rfl (q_cf Try.call10 rfl (fun wd hwd => (hist_Check wd (some ⟨b29, 0, none⟩) 1 1 [d] rfl (base1 (by repeat (first | exact List.Mem.head _ | apply List.Mem.tail)) hwd) (Nat.le_of_ble_eq_true rfl) (Nat.le_of_ble_eq_true rfl))) (by repeat (first | exact Pick.nil | exact Take.here | apply Pick.cons | apply Take.there)))) ?_
        refine O_qs (QY.guard rfl rfl rfl (q_neq rfl rfl)) ?_
        refine O_qs (q_pick_f rfl rfl) ?_
        refine O_nil ?_
        rw [good1 d]
        cases hd : d.bad with
        | true =>
          refine W_true rfl ?_
          refine W_seq ?_
          refine W_reg rfl ?_
          refine O_qs (q_assign rfl) ?_
          refine O_nil ?_
          refine W_ret ?_
          refine res1 (c0 := []) rfl rfl (by repeat (first | exact Pick.nil | exact Take.here | apply Pick.cons | apply Take.there)) rfl ?_
          exact ⟨rfl, rfl⟩
        | false =>
          refine W_false rfl ?_
          refine W_skip ?_
          refine W_seq ?_
          refine W_seq ?_
          refine W_reg rfl ?_
          refine O_qs (q_loadN (vs := [_, _, _, _, _, _, _, _, _, _, _]) Try.isAgg44 Try.sizeOf44 rfl (rd_range (by repeat (first | exact List.Mem.head _ | apply List.Mem.tail)) rfl)) ?_
          refine O_qs (q_loadN (vs := [_, _, _, _, _, _, _, _, _, _, _]) Try.isAgg44 Try.sizeOf44 rfl (rd_range (by repeat (first | exact List.Mem.head _ | apply List.Mem.tail)) rfl)) ?_
          refine O_qs (q_cf Try.call11 rfl (fun wd hwd => (hist_Ahead _ a a)) (by repeat (first | exact Pick.nil | exact Take.here | apply Pick.cons | apply Take.there))) ?_
          refine O_qs (q_move rfl) ?_
          refine O_qs (QY.cond0 rfl rfl rfl (fun H => q_loadN (vs := [_, _, _, _, _, _, _, _, _, _, _]) Try.isAgg44 Try.sizeOf44 rfl (rd_range (by repeat (first | exact List.Mem.head _ | apply List.Mem.tail)) rfl))) ?_
          refine O_qs (QY.cond0 rfl rfl rfl (fun H => q_loadN (vs := [_, _, _, _, _, _, _, _, _, _, _]) Try.isAgg44 Try.sizeOf44 rfl (rd_range (by repeat (first | exact List.Mem.head _ | apply List.Mem.tail)) rfl))) ?_
          refine O_qs (QY.cond0 rfl rfl rfl (fun H => q_cf Try.call11 (ev_cons (gvh rfl H) (ev_cons (gvh rfl H) ev_nil)) (fun wd hwd => (hist_Ahead _ a b)) (by repeat (first | exact Pick.nil | exact Take.here | apply Pick.cons | apply Take.there)))) ?_
          refine O_qs (QY.cond0 rfl rfl rfl (fun H => q_move (gvh rfl H))) ?_
          refine O_qs (QY.condn rfl rfl rfl (fun H => q_loadN (vs := [_, _, _, _, _, _, _, _, _, _, _]) Try.isAgg44 Try.sizeOf44 rfl (rd_range (by repeat (first | exact List.Mem.head _ | apply List.Mem.tail)) rfl))) ?_
          refine O_qs (QY.condn rfl rfl rfl (fun H => q_loadN (vs := [_, _, _, _, _, _, _, _, _, _, _]) Try.isAgg44 Try.sizeOf44 rfl (rd_range (by repeat (first | exact List.Mem.head _ | apply List.Mem.tail)) rfl))) ?_
          refine O_qs (QY.condn rfl rfl rfl (fun H => q_cf Try.call11 (ev_cons (gvh rfl H) (ev_cons (gvh rfl H) ev_nil)) (fun wd hwd => (hist_Ahead _ b a)) (by repeat (first | exact Pick.nil | exact Take.here | apply Pick.cons | apply Take.there)))) ?_
          refine O_qs (QY.cond0 rfl rfl rfl (fun H => q_and (gvh rfl H) (gva rfl H) rfl)) ?_
          refine O_qs (q_or rfl rfl rfl) ?_
          refine O_nil ?_
          refine W_fa rfl ((by rw [bad_ahead ha]; cases h1 : a.ahead b with | false => rfl | true => rw [not_both ha hb h1]; rfl)) ?_
          refine W_skip ?_
          refine W_seq ?_
          refine W_seq ?_
          refine W_reg rfl ?_
          refine O_qs (q_loadN (vs := [_, _, _, _, _, _, _, _, _, _, _]) Try.isAgg44 Try.sizeOf44 rfl (rd_range (by repeat (first | exact List.Mem.head _ | apply List.Mem.tail)) rfl)) ?_
          refine O_qs (q_loadN (vs := [_, _, _, _, _, _, _, _, _, _, _]) Try.isAgg44 Try.sizeOf44 rfl (rd_range (by repeat (first | exact List.Mem.head _ | apply List.Mem.tail)) rfl)) ?_
          refine O_qs (q_cf Try.call11 rfl (fun wd hwd => (hist_Ahead _ a b)) (by repeat (first | exact Pick.nil | exact Take.here | apply Pick.cons | apply Take.there))) ?_
          refine O_qs (q_move rfl) ?_
          refine O_qs (QY.cond0 rfl rfl rfl (fun H => q_loadN (vs := [_, _, _, _, _, _, _, _, _, _, _]) Try.isAgg44 Try.sizeOf44 rfl (rd_range (by repeat (first | exact List.Mem.head _ | apply List.Mem.tail)) rfl))) ?_
          refine O_qs (QY.cond0 rfl rfl rfl (fun H => q_loadN (vs := [_, _, _, _, _, _, _, _, _, _, _]) Try.isAgg44 Try.sizeOf44 rfl (rd_range (by repeat (first | exact List.Mem.head _ | apply List.Mem.tail)) rfl))) ?_
          refine O_qs (QY.cond0 rfl rfl rfl (fun H => q_cf Try.call11 (ev_cons (gvh rfl H) (ev_cons (gvh rfl H) ev_nil)) (fun wd hwd => (hist_Ahead _ b c)) (by repeat (first | exact Pick.nil | exact Take.here | apply Pick.cons | apply Take.there)))) ?_
          refine O_qs (q_and rfl rfl rfl) ?_
          refine O_qs (q_move rfl) ?_
          refine O_qs (QY.cond0 rfl rfl rfl (fun H => q_loadN (vs := [_, _, _, _, _, _, _, _, _, _, _]) Try.isAgg44 Try.sizeOf44 rfl (rd_range (by repeat (first | exact List.Mem.head _ | apply List.Mem.tail)) rfl))) ?_
          refine O_qs (QY.cond0 rfl rfl rfl (fun H => q_loadN (vs := [_, _, _, _, _, _, _, _, _, _, _]) Try.isAgg44 Try.sizeOf44 rfl (rd_range (by repeat (first | exact List.Mem.head _ | apply List.Mem.tail)) rfl))) ?_
          refine O_qs (QY.cond0 rfl rfl rfl (fun H => q_cf Try.call11 (ev_cons (gvh rfl H) (ev_cons (gvh rfl H) ev_nil)) (fun wd hwd => (hist_Ahead _ a c)) (by repeat (first | exact Pick.nil | exact Take.here | apply Pick.cons | apply Take.there)))) ?_
          refine O_qs (QY.cond0 rfl rfl rfl (fun H => q_not (gvh rfl H))) ?_
          refine O_qs (q_and rfl rfl rfl) ?_
          refine O_nil ?_
          refine W_fa rfl ((by cases h1 : a.ahead b with | false => rfl | true => (cases h2 : b.ahead c with | false => rfl | true => (rw [ahead_trans hb h1 h2]; rfl)))) ?_
          refine W_skip ?_
          refine W_seq ?_
          refine W_reg rfl ?_
          refine O_qs (q_loadN (vs := [_, _, _, _, _, _, _, _, _, _, _]) Try.isAgg44 Try.sizeOf44 rfl (rd_range (by repeat (first | exact List.Mem.head _ | apply List.Mem.tail)) rfl)) ?_
          refine O_qs (q_loadN (vs := [_, _, _, _, _, _, _, _, _, _, _]) Try.isAgg44 Try.sizeOf44 rfl (rd_range (by repeat (first | exact List.Mem.head _ | apply List.Mem.tail)) rfl)) ?_
          refine O_qs (q_cf Try.call11 rfl (fun wd hwd => (hist_Ahead _ a b)) (by repeat (first | exact Pick.nil | exact Take.here | apply Pick.cons | apply Take.there))) ?_
          refine O_qs (q_not rfl) ?_
          refine O_qs (q_move rfl) ?_
          refine O_qs (QY.cond0 rfl rfl rfl (fun H => q_loadN (vs := [_, _, _, _, _, _, _, _, _, _, _]) Try.isAgg44 Try.sizeOf44 rfl (rd_range (by repeat (first | exact List.Mem.head _ | apply List.Mem.tail)) rfl))) ?_
          refine O_qs (QY.cond0 rfl rfl rfl (fun H => q_loadN (vs := [_, _, _, _, _, _, _, _, _, _, _]) Try.isAgg44 Try.sizeOf44 rfl (rd_range (by repeat (first | exact List.Mem.head _ | apply List.Mem.tail)) rfl))) ?_
          refine O_qs (QY.cond0 rfl rfl rfl (fun H => q_cf Try.call11 (ev_cons (gvh rfl H) (ev_cons (gvh rfl H) ev_nil)) (fun wd hwd => (hist_Ahead _ c d)) (by repeat (first | exact Pick.nil | exact Take.here | apply Pick.cons | apply Take.there)))) ?_
          refine O_qs (QY.cond0 rfl rfl rfl (fun H => q_not (gvh rfl H))) ?_
          refine O_qs (q_or rfl rfl rfl) ?_
          refine O_qs (q_move rfl) ?_
          refine O_qs (QY.cond0 rfl rfl rfl (fun H => q_loadN (vs := [_, _, _, _, _, _, _, _, _, _, _]) Try.isAgg44 Try.sizeOf44 rfl (rd_range (by repeat (first | exact List.Mem.head _ | apply List.Mem.tail)) rfl))) ?_
          refine O_qs (QY.cond0 rfl rfl rfl (fun H => q_loadN (vs := [_, _, _, _, _, _, _, _, _, _, _]) Try.isAgg44 Try.sizeOf44 rfl (rd_range (by repeat (first | exact List.Mem.head _ | apply List.Mem.tail)) rfl))) ?_
          refine O_qs (QY.cond0 rfl rfl rfl (fun H => q_cf Try.call11 (ev_cons (gvh rfl H) (ev_cons (gvh rfl H) ev_nil)) (fun wd hwd => (hist_Ahead _ a d)) (by repeat (first | exact Pick.nil | exact Take.here | apply Pick.cons | apply Take.there)))) ?_
          refine O_qs (q_or rfl rfl rfl) ?_
          refine O_qs (q_move rfl) ?_
          refine O_qs (QY.cond0 rfl rfl rfl (fun H => q_loadN (vs := [_, _, _, _, _, _, _, _, _, _, _]) Try.isAgg44 Try.sizeOf44 rfl (rd_range (by repeat (first | exact List.Mem.head _ | apply List.Mem.tail)) rfl))) ?_
          refine O_qs (QY.cond0 rfl rfl rfl (fun H => q_loadN (vs := [_, _, _, _, _, _, _, _, _, _, _]) Try.isAgg44 Try.sizeOf44 rfl (rd_range (by repeat (first | exact List.Mem.head _ | apply List.Mem.tail)) rfl))) ?_
          refine O_qs (QY.cond0 rfl rfl rfl (fun H => q_cf Try.call11 (ev_cons (gvh rfl H) (ev_cons (gvh rfl H) ev_nil)) (fun wd hwd => (hist_Ahead _ c b)) (by repeat (first | exact Pick.nil | exact Take.here | apply Pick.cons | apply Take.there)))) ?_
          refine O_qs (q_or rfl rfl rfl) ?_
          refine O_qs (q_assign rfl) ?_
          refine O_nil ?_
          refine W_ret ?_
          refine res1 (c0 := []) rfl rfl (by repeat (first | exact Pick.nil | exact Take.here | apply Pick.cons | apply Take.there)) rfl ?_
          refine ⟨?_, rfl⟩
          congr 1
          cases h1 : a.ahead b with
          | false => rfl
          | true =>
            cases h2 : c.ahead d with
            | false => rfl
            | true =>
              rcases ahead_four h1 h2 with h3 | h3
              · rw [h3]; simp
              · rw [h3]; simp
end Go.Proofs.Ytolcdmbjddekeaa
