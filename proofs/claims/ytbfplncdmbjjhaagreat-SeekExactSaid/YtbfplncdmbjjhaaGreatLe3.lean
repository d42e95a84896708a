/-
  Walks: the document's search.
-/
import Derived.Test.YtbfplncdmbjjhaaGreatLe
set_option linter.unusedSimpArgs false
set_option linter.unusedVariables false
namespace Go.Proofs.YtbfplncdmbjjhaaGreat
open Go Go.SL

abbrev rsrchA (qb : Nat) (root key : Int) (vals : Bool) (lp : Value) (on : Bool) : Atom :=
  [(qb, .cells #[.int .i64 root, .int .u64 key, .bool vals, .bool on, lp] 77 (0, 0))]
/-- The document's search of block qb. -/
def RSrchIs (A : Atom) (qb : Nat) (root key : Int) (vals : Bool) (s : SSt) : Prop :=
  (s.some = false ∧ s.on = false ∧ A = rsrchA qb root key vals (.pointer none) false) ∨ (s.some = true ∧ ∃ lb, A = rsrchA qb root key vals (ptr lb) s.on ++ rlaneA lb s.x)
theorem RSrchIs.found {S : Atom} {qb : Nat} {root key : Int} {vals : Bool} {s : SSt} (h : RSrchIs S qb root key vals s) (hs : s.some = true) : ∃ lb, S = rsrchA qb root key vals (ptr lb) s.on ++ rlaneA lb s.x := by
  rcases h with ⟨h1, _⟩ | ⟨_, h3⟩
  · rw [hs] at h1; cases h1
  · exact h3

theorem ref15_Search_Step (B : World) (S : Atom) (qb ub mb : Nat) (root key : Int) (vals : Bool) (s : SSt) (xc : Conf) (n h : Int) (v3 : Value) (R : Atom) (v : Value) (l : List (Plc × Int)) (hS : RSrchIs S qb root key vals s) (hM : s.on = true → LaneM s.x) (hR : Row layO 147 R v l) (hl : l.length ≤ 1073741824) (hm : 0 ≤ mem l epochP ∧ mem l epochP < 18446744073709551616) :
    Ctr Tryz.prog 29 [ptr qb, ptr ub, ptr mb] B [S, uraw ub xc s.e v3 n h s.r, oraw mb v, R]
      (fun u c => ∃ S' R' v', RSrchIs S' qb root key vals (s.step root key vals (mem l)).s ∧ Row layO 147 R' v' (mwr l (s.step root key vals (mem l)).wr) ∧ u = .int .i64 (s.step root key vals (mem l)).st ∧
        c = [S', uraw ub xc (s.step root key vals (mem l)).s.e v3 n h (s.step root key vals (mem l)).s.r, oraw mb v', R']) := by
  cases hon : s.on with
  | false =>
    have hst : s.step root key vals (mem l) = ⟨0, ⟨true, true, newLane ⟨rootP root, 0⟩ 0 key vals, epw (mem l epochP), s.r⟩, none, true⟩ := by
      unfold SSt.step
      rw [if_neg (by simp [hon])]
    rw [hst]
    have fin : ∀ (lp : Value), lp.oneCell' = true → Ctr Tryz.prog 29 [ptr qb, ptr ub, ptr mb] B [rsrchA qb root key vals lp false, uraw ub xc s.e v3 n h s.r, oraw mb v, R]
      (fun u c => ∃ S' R' v', RSrchIs S' qb root key vals ⟨true, true, newLane ⟨rootP root, 0⟩ 0 key vals, epw (mem l epochP), s.r⟩ ∧ Row layO 147 R' v' l ∧ u = .int .i64 0 ∧ c = [S', uraw ub xc (epw (mem l epochP)) v3 n h s.r, oraw mb v', R']) := by
      intro lp hlp
      refine Ctr.intro (n := 50) Tryz.func29 rfl Tryz.ntmps29 (Nat.le_of_ble_eq_true rfl) ?_
      refine W_seq ?_
      refine W_reg rfl ?_
      refine O_qs (q_assign rfl) ?_
      refine O_nil ?_
      refine W_seq ?_
      refine W_seq ?_
      refine W_reg rfl ?_
      refine O_qs (q_move rfl) ?_
      refine O_qs (q_nil rfl) ?_
      refine O_qs (q_fa fa_77_3 rfl) ?_
      refine O_qs (q_load Tryz.isAgg4 rfl (rd_chunk (by repeat (first | exact List.Mem.head _ | apply List.Mem.tail)) rfl)) ?_
      refine O_qs (q_not rfl) ?_
      refine O_nil ?_
      refine W_true rfl ?_
      refine W_seq ?_
      refine W_reg rfl ?_
      refine O_qs (q_move rfl) ?_
      refine O_qs (q_move rfl) ?_
      refine O_es (e_cf Tryz.call13 rfl (fun wd hwd => (ref13_Check _ ub mb xc s.e n h s.r v3 R v l hR hl hm)) (by repeat (first | exact Pick.nil | exact Take.here | apply Pick.cons | apply Take.there))) ?_
      rintro _ _ ⟨_, ⟨rfl, rfl⟩, rfl⟩
      refine O_nil ?_
      refine W_seq ?_
      refine W_draw [[], [], [1], [1, 2], [1, 2, 3], [1, 2, 3, 4], [], [6], [6, 7], [6, 7, 8], [], [10], [10, 11], [10, 11, 12], [1, 2, 3, 4, 5, 6, 7, 8, 9, 10, 11, 12, 13], [1, 2, 3, 4, 5, 6, 7, 8, 9, 10, 11, 12, 13, 14], [0, 1, 2, 3, 4, 5, 6, 7, 8, 9, 10, 11, 12, 13, 14, 15], [0, 1, 2, 3, 4, 5, 6, 7, 8, 9, 10, 11, 12, 13, 14, 15, 16], [0, 1, 2, 3, 4, 5, 6, 7, 8, 9, 10, 11, 12, 13, 14, 15, 16, 17]] rfl rfl rfl ?_
      refine V.qs 0 rfl rfl (q_move rfl) ?_
      refine V.qs 1 rfl rfl (q_move rfl) ?_
      refine V.qs 2 rfl rfl (q_nil rfl) ?_
      refine V.qs 3 rfl rfl (q_fa fa_77_0 rfl) ?_
      refine V.qs 4 rfl rfl (q_load Tryz.isAgg3 rfl (rd_chunk (by repeat (first | exact List.Mem.head _ | apply List.Mem.tail)) rfl)) ?_
      refine V.qs 5 rfl rfl (q_build rfl (bld_51 (cs := [_, _, _]) rfl)) ?_
      refine V.qs 6 rfl rfl (q_move rfl) ?_
      refine V.qs 7 rfl rfl (q_nil rfl) ?_
      refine V.qs 8 rfl rfl (q_fa fa_77_1 rfl) ?_
      refine V.qs 9 rfl rfl (q_load Tryz.isAgg23 rfl (rd_chunk (by repeat (first | exact List.Mem.head _ | apply List.Mem.tail)) rfl)) ?_
      refine V.qs 10 rfl rfl (q_move rfl) ?_
      refine V.qs 11 rfl rfl (q_nil rfl) ?_
      refine V.qs 12 rfl rfl (q_fa fa_77_2 rfl) ?_
      refine V.qs 13 rfl rfl (q_load Tryz.isAgg4 rfl (rd_chunk (by repeat (first | exact List.Mem.head _ | apply List.Mem.tail)) rfl)) ?_
      refine V.qs 14 rfl rfl (q_build rfl (bld_57 (cs := [_, _, _, _, _, _, _, _, _, _, _, _, _]) rfl)) ?_
      refine V.e1s 15 [0] rfl rfl rfl (e_box (cs := #[_, _, _, _, _, _, _, _, _, _, _, _, _]) rfl rfl) ?_
      rintro _ _ ⟨b31, rfl, rfl⟩
      refine ⟨st rfl rfl (q_move rfl) (st_nil), ?_⟩
      refine V.qs 16 rfl rfl (q_nil rfl) ?_
      refine V.qs 17 rfl rfl (q_fa fa_77_4 rfl) ?_
      refine V.e1n 18 [] rfl rfl rfl (e_store Tryz.sizeOf55 rfl rfl rfl (by repeat (first | exact Upd.here | apply Upd.there)) rfl (by simp only [setAll, List.setIfInBounds_toArray, List.set_cons_succ, List.set_cons_zero, Nat.reduceAdd, Nat.zero_add] <;> rfl)) ?_
      rintro _ _ ⟨rfl, rfl⟩
      refine ⟨st_nil, ?_⟩
      refine V.fin rfl ?_
      refine W_seq ?_
      refine W_reg rfl ?_
      refine O_qs (q_move rfl) ?_
      refine O_qs (q_nil rfl) ?_
      refine O_qs (q_fa fa_77_3 rfl) ?_
      refine O_en (e_store Tryz.sizeOf4 rfl rfl rfl (by repeat (first | exact Upd.here | apply Upd.there)) rfl (by simp only [setAll, List.setIfInBounds_toArray, List.set_cons_succ, List.set_cons_zero, Nat.reduceAdd, Nat.zero_add] <;> rfl)) ?_
      rintro _ _ ⟨rfl, rfl⟩
      refine O_nil ?_
      refine W_seq ?_
      refine W_reg rfl ?_
      refine O_qs (q_assign rfl) ?_
      refine O_nil ?_
      refine W_ret ?_
      refine res1 (c0 := [rsrchA qb root key vals (ptr b31) true, rlaneA b31 (newLane ⟨rootP root, 0⟩ 0 key vals), uraw ub xc (epw (mem l epochP)) v3 n h s.r, oraw mb v, R]) (c := [rsrchA qb root key vals (ptr b31) true ++ rlaneA b31 (newLane ⟨rootP root, 0⟩ 0 key vals), uraw ub xc (epw (mem l epochP)) v3 n h s.r, oraw mb v, R]) rfl rfl (by repeat (first | exact Pick.nil | exact Take.here | apply Pick.cons | apply Take.there)) rfl ?_
      exact ⟨_, R, v, .inr ⟨rfl, b31, rfl⟩, hR, rfl, rfl⟩
    rcases hS with ⟨h1, h2, rfl⟩ | ⟨h1, lb, rfl⟩
    · exact fin _ rfl
    · rw [hon]
      refine Ctr.conv (pre' := [rsrchA qb root key vals (ptr lb) false, rlaneA lb s.x, uraw ub xc s.e v3 n h s.r, oraw mb v, R]) rfl ?_
      intro hi'
      have := (fin (ptr lb) rfl).framed (r := [rlaneA lb s.x]) (.cons .here (.cons (.there .here) (.cons (.there .here) (.cons (.there .here) .nil)))) hi'
      refine Calls.mono this ?_
      rintro u w ⟨v, pst, he, hinv, S', R', v', q1, q2, q3, rfl⟩
      exact ⟨v, _, he, hinv.pick (r := [rlaneA lb s.x]) (.cons .here (.cons .here (.cons .here (.cons .here .nil)))), S', R', v', q1, q2, q3, rfl⟩
  | true =>
    rcases hS with ⟨h1, h2, rfl⟩ | ⟨h1, lb, rfl⟩
    · rw [hon] at h2; cases h2
    · have hst : s.step root key vals (mem l) = ⟨if (s.x.step s.e s.r (mem l)).st = 2 then 0 else (s.x.step s.e s.r (mem l)).st, { s with on := decide ((s.x.step s.e s.r (mem l)).st ≠ 2), x := (s.x.step s.e s.r (mem l)).x, r := (s.x.step s.e s.r (mem l)).r }, (s.x.step s.e s.r (mem l)).wr, (s.x.step s.e s.r (mem l)).ld⟩ := by
        unfold SSt.step
        rw [if_pos hon]
      rw [hst, hon]
      refine Ctr.conv (pre' := [rsrchA qb root key vals (ptr lb) true, rlaneA lb s.x, uraw ub xc s.e v3 n h s.r, oraw mb v, R]) rfl ?_
      refine Ctr.intro (n := 50) Tryz.func29 rfl Tryz.ntmps29 (Nat.le_of_ble_eq_true rfl) ?_
      refine W_seq ?_
      refine W_reg rfl ?_
      refine O_qs (q_assign rfl) ?_
      refine O_nil ?_
      refine W_seq ?_
      refine W_seq ?_
      refine W_reg rfl ?_
      refine O_qs (q_move rfl) ?_
      refine O_qs (q_nil rfl) ?_
      refine O_qs (q_fa fa_77_3 rfl) ?_
      refine O_qs (q_load Tryz.isAgg4 rfl (rd_chunk (by repeat (first | exact List.Mem.head _ | apply List.Mem.tail)) rfl)) ?_
      refine O_qs (q_not rfl) ?_
      refine O_nil ?_
      refine W_false rfl ?_
      refine W_skip ?_
      refine W_seq ?_
      refine W_reg rfl ?_
      refine O_qs (q_move rfl) ?_
      refine O_qs (q_nil rfl) ?_
      refine O_qs (q_fa fa_77_4 rfl) ?_
      refine O_qs (q_load Tryz.isAgg55 rfl (rd_chunk (by repeat (first | exact List.Mem.head _ | apply List.Mem.tail)) rfl)) ?_
      refine O_qs (q_move rfl) ?_
      refine O_qs (q_move rfl) ?_
      refine O_es (e_cf Tryz.call18 rfl (fun wd hwd => (ref15_Lane_Step _ lb ub mb s.x xc s.e n h s.r v3 R v l (hM hon) hR hl)) (by repeat (first | exact Pick.nil | exact Take.here | apply Pick.cons | apply Take.there))) ?_
      rintro _ _ ⟨_, ⟨R', v', hR', rfl, rfl⟩, rfl⟩
      refine O_qs (q_assign rfl) ?_
      refine O_nil ?_
      refine W_seq ?_
      refine W_seq ?_
      refine W_reg rfl ?_
      refine O_qs (q_move rfl) ?_
      refine O_qs (q_eql rfl rfl) ?_
      refine O_nil ?_
      generalize s.x.step s.e s.r (mem l) = t at hR' ⊢
      refine W_cond rfl ?_ ?_
      · intro hc
        have h2 : t.st = 2 := of_decide_eq_true hc
        refine W_seq ?_
        refine W_reg rfl ?_
        refine O_qs (q_move rfl) ?_
        refine O_qs (q_nil rfl) ?_
        refine O_qs (q_fa fa_77_3 rfl) ?_
        refine O_en (e_store Tryz.sizeOf4 rfl rfl rfl (by repeat (first | exact Upd.here | apply Upd.there)) rfl (by simp only [setAll, List.setIfInBounds_toArray, List.set_cons_succ, List.set_cons_zero, Nat.reduceAdd, Nat.zero_add] <;> rfl)) ?_
        rintro _ _ ⟨rfl, rfl⟩
        refine O_nil ?_
        refine W_seq ?_
        refine W_reg rfl ?_
        refine O_qs (q_assign rfl) ?_
        refine O_nil ?_
        refine W_ret ?_
        refine res1 (c0 := [rsrchA qb root key vals (ptr lb) false, rlaneA lb t.x, uraw ub xc s.e v3 n h t.r, oraw mb v', R']) (c := [rsrchA qb root key vals (ptr lb) false ++ rlaneA lb t.x, uraw ub xc s.e v3 n h t.r, oraw mb v', R']) rfl rfl (by repeat (first | exact Pick.nil | exact Take.here | apply Pick.cons | apply Take.there)) rfl ?_
        rw [if_pos h2, h2]
        exact ⟨_, R', v', .inr ⟨h1, lb, rfl⟩, hR', rfl, rfl⟩
      · intro hc
        have h2 : ¬ t.st = 2 := of_decide_eq_false hc
        refine W_skip ?_
        refine W_seq ?_
        refine W_reg rfl ?_
        refine O_qs (q_move rfl) ?_
        refine O_qs (q_assign rfl) ?_
        refine O_nil ?_
        refine W_ret ?_
        refine res1 (c0 := [rsrchA qb root key vals (ptr lb) true, rlaneA lb t.x, uraw ub xc s.e v3 n h t.r, oraw mb v', R']) (c := [rsrchA qb root key vals (ptr lb) true ++ rlaneA lb t.x, uraw ub xc s.e v3 n h t.r, oraw mb v', R']) rfl rfl (by repeat (first | exact Pick.nil | exact Take.here | apply Pick.cons | apply Take.there)) rfl ?_
        rw [if_neg h2, decide_eq_true h2]
        exact ⟨_, R', v', .inr ⟨h1, lb, rfl⟩, hR', rfl, rfl⟩

/-- What both may step behind a step that did not end. -/
theorem SSt.nextM {root key : Int} {vals : Bool} {s : SSt} {m : Mem} (hm : ∀ p, Wd (m p)) (hM : s.on = true → LaneM s.x) (hs : (s.step root key vals m).st = 0) : (s.step root key vals m).s.on = true → LaneM (s.step root key vals m).s.x := by
  unfold SSt.step at hs ⊢
  by_cases hon : s.on = true
  · rw [if_pos hon] at hs ⊢
    intro h2
    have h3 : (s.x.step s.e s.r m).st ≠ 2 := of_decide_eq_true h2
    dsimp only at hs
    rw [if_neg h3] at hs
    exact (hM hon).step hm hs
  · rw [if_neg hon]
    intro _
    exact ⟨⟨⟨Int.le_refl 0, (by decide : (0 : Int) ≤ 1000000)⟩, (by decide : Wd 0), (by decide : Wd 0)⟩, ⟨Int.le_refl 0, (by decide : (0 : Int) ≤ 100)⟩, fun _ => rfl⟩
theorem SSt.step_st {root key : Int} {vals : Bool} {s : SSt} {m : Mem} : (s.step root key vals m).st = 0 ∨ (s.step root key vals m).st = 1 := by
  unfold SSt.step
  by_cases hon : s.on = true
  · rw [if_pos hon]
    dsimp only
    split
    · exact .inl rfl
    · rcases Lane.step_st s.x s.e s.r m with h | h | h
      · exact .inl h
      · exact .inr h
      · contradiction
  · rw [if_neg hon]
    exact .inl rfl
theorem SSt.step_some {root key : Int} {vals : Bool} {s : SSt} {m : Mem} (h : s.on = true → s.some = true) : (s.step root key vals m).s.some = true := by
  unfold SSt.step
  by_cases hon : s.on = true
  · rw [if_pos hon]; exact h hon
  · rw [if_neg hon]

/-! ### Counts -/
section
variable {M : Mach} {all : Array Oper} {env : Env} {ctx : Ctx} {dst : Option Tmp} {ty : TypeId} {pos : String} {aft : Array Edge} {x y : Operand} {t yt : TypeId}
theorem q_neqF {k : IntKind} {a b : Int} (h : a = b) (hx : evalO env x = some (.int k a)) (hy : evalO env y = some (.int k b)) : QY M all ⟨dst, .binOp .neq t x y yt, ty, pos, aft, none⟩ env ctx (.bool false) := by
  have h2 := q_neq (M := M) (all := all) (ctx := ctx) (dst := dst) (ty := ty) (pos := pos) (aft := aft) (yt := yt) (t := t) hx hy
  rw [decide_eq_true h] at h2
  exact h2
end
theorem wrap_add (x y : Int) : IntKind.i64.wrap (IntKind.i64.wrap x + y) = IntKind.i64.wrap (x + y) := by
  simp only [IntKind.wrap, IntKind.bits, IntKind.signed, Bool.true_and, ge_iff_le, decide_eq_true_eq]
  split <;> split <;> split <;> omega
theorem sum_step (k : Count) (ld is : Bool) : IntKind.i64.wrap (IntKind.i64.wrap (IntKind.i64.wrap ((ldK k ld is).loads + (ldK k ld is).swaps) + (ldK k ld is).stores) + (ldK k ld is).adds) = IntKind.i64.wrap (IntKind.i64.wrap (IntKind.i64.wrap (IntKind.i64.wrap (k.loads + k.swaps) + k.stores) + k.adds) + 1) := by
  have hi : ∀ x, inc x = IntKind.i64.wrap (x + 1) := fun _ => rfl
  have h1 : (ldK k ld is).stores = k.stores ∧ (ldK k ld is).adds = k.adds ∧ ((ldK k ld is).loads = inc k.loads ∧ (ldK k ld is).swaps = k.swaps ∨ (ldK k ld is).loads = k.loads ∧ (ldK k ld is).swaps = inc k.swaps) := by
    cases ld <;> cases is <;> simp [ldK, swapK]
  obtain ⟨e1, e2, ⟨e3, e4⟩ | ⟨e3, e4⟩⟩ := h1
  · rw [e1, e2, e3, e4, hi]
    simp only [wrap_add]
    rw [show k.loads + 1 + k.swaps = (k.loads + k.swaps) + 1 by omega]
    congr 1
    omega
  · rw [e1, e2, e3, e4, hi]
    rw [show k.loads + IntKind.i64.wrap (k.swaps + 1) = IntKind.i64.wrap (k.swaps + 1) + k.loads by omega]
    simp only [wrap_add]
    congr 1
    omega
theorem ldK_stores (k : Count) (ld is : Bool) : (ldK k ld is).stores = k.stores := by
  cases ld <;> cases is <;> rfl
end Go.Proofs.YtbfplncdmbjjhaaGreat
