/-
  The law of the core, whole.
-/
import Derived.Test.YtaphhhnnplljdaaL
set_option linter.unusedSimpArgs false
set_option linter.unusedVariables false
namespace Go.Proofs.Ytaphhhnnplljdaa
open Go Go.SL

def layD : Lay Deed where
  enc := Deed.l
  size := 7
  pos := by decide
  len := fun _ => rfl
  one := by
    intro a u h
    simp only [Deed.l, List.mem_cons, List.not_mem_nil, or_false] at h
    rcases h with rfl | rfl | rfl | rfl | rfl | rfl | rfl <;> rfl

def Deed.ok (a : Deed) : Prop := (0 ≤ a.w ∧ a.w < 18446744073709551616) ∧ (0 ≤ a.v.word ∧ a.v.word < 18446744073709551616)

theorem law13_CoreExact (B : World) (x : Conf) (sa : Option Addr) (cap : Nat) (acts : List Deed) (hb : BaseRow layD B sa acts) (hok : ∀ a, a ∈ acts → a.ok) (hlen : acts.length ≤ 9223372036854775807) :
    Ctr Try.prog 3 [x.v, .slice sa acts.length cap] B [] (fun u c => u = .bool true ∧ c = []) := by
  by_cases he : x.err = 0
  · refine Ctr.intro (n := 156) Try.func3 rfl Try.ntmps3 (Nat.le_of_ble_eq_true rfl) ?_
    refine W_seq ?_
    refine W_reg rfl ?_
    refine O_es (e_box (cs := #[_, _, _, _, _]) rfl rfl) ?_
    rintro _ _ ⟨b2, rfl, rfl⟩
    refine O_qs (q_assign rfl) ?_
    refine O_nil ?_
    refine W_seq ?_
    refine W_seq ?_
    refine W_reg rfl ?_
    refine O_qs (q_cf Try.call7 rfl (fun wd hwd => (law13_awake _)) (by repeat (first | exact Pick.nil | exact Take.here | apply Pick.cons | apply Take.there))) ?_
    refine O_qs (q_not rfl) ?_
    refine O_nil ?_
    refine W_false rfl ?_
    refine W_skip ?_
    refine W_seq ?_
    refine W_reg rfl ?_
    refine O_qs (q_loadN (vs := [_, _, _, _, _]) Try.isAgg23 Try.sizeOf23 rfl (rd_range (by repeat (first | exact List.Mem.head _ | apply List.Mem.tail)) rfl)) ?_
    refine O_es (e_cf Try.call8 rfl (fun wd hwd => (core_New_ok _ x he)) (by repeat (first | exact Pick.nil | exact Take.here | apply Pick.cons | apply Take.there))) ?_
    rintro _ _ ⟨_, ⟨cb, qb, R, v, ring, k, h, hq, rfl, rfl⟩, rfl⟩
    refine O_qs (q_assign rfl) ?_
    refine O_nil ?_
    refine W_seq ?_
    refine W_seq ?_
    refine W_reg rfl ?_
    refine O_qs (q_move rfl) ?_
    refine O_qs (q_nenil Try.runUnderlying26 rfl rfl) ?_
    refine O_qs (q_loadN (vs := [_, _, _, _, _]) Try.isAgg23 Try.sizeOf23 rfl (rd_range (by repeat (first | exact List.Mem.head _ | apply List.Mem.tail)) rfl)) ?_
    refine O_qs (q_cf Try.call9 rfl (fun wd hwd => (ref03_Check _ x)) (by repeat (first | exact Pick.nil | exact Take.here | apply Pick.cons | apply Take.there))) ?_
    refine O_qs (q_eql rfl rfl) ?_
    refine O_qs (q_neb Try.runUnderlying4 rfl rfl) ?_
    refine O_nil ?_
    refine W_fa rfl ((by simp [he])) ?_
    refine W_skip ?_
    refine W_seq ?_
    refine W_seq ?_
    refine W_reg rfl ?_
    refine O_qs (q_move rfl) ?_
    refine O_qs (q_eqnil Try.runUnderlying26 rfl rfl) ?_
    refine O_nil ?_
    refine W_false rfl ?_
    refine W_skip ?_
    refine W_seq ?_
    refine W_reg rfl ?_
    refine O_qs (q_loadN (vs := [_, _, _, _, _]) Try.isAgg23 Try.sizeOf23 rfl (rd_range (by repeat (first | exact List.Mem.head _ | apply List.Mem.tail)) rfl)) ?_
    refine O_qs (q_build rfl (bld_34 (cs := [_, _, _, _, _, _, _, _, _, _]) rfl)) ?_
    refine O_es (e_box (cs := #[_, _, _, _, _, _, _, _, _, _]) rfl rfl) ?_
    rintro _ _ ⟨b30, rfl, rfl⟩
    refine O_qs (q_assign rfl) ?_
    refine O_nil ?_
    refine W_seq ?_
    refine W_reg rfl ?_
    refine O_es (e_cf Try.call10 rfl (fun wd hwd => (world_New _)) (by repeat (first | exact Pick.nil | exact Take.here | apply Pick.cons | apply Take.there))) ?_
    rintro _ _ ⟨_, ⟨wb, A, hA, rfl, rfl⟩, rfl⟩
    refine O_qs (q_assign rfl) ?_
    refine O_nil ?_
    refine W_seq ?_
    refine W_reg rfl ?_
    refine O_qs (q_build rfl (bld_40 (cs := [_]) rfl)) ?_
    refine O_es (e_box (cs := #[_]) rfl rfl) ?_
    rintro _ _ ⟨b33, rfl, rfl⟩
    refine O_qs (q_assign rfl) ?_
    refine O_nil ?_
    refine W_seq ?_
    refine W_reg rfl ?_
    refine O_es (e_alloc (cs := #[.int .i64 0]) Try.zeroValue3 rfl) ?_
    rintro _ _ ⟨b9, rfl, rfl⟩
    refine O_en (e_store Try.sizeOf3 rfl rfl rfl (by repeat (first | exact Upd.here | apply Upd.there)) rfl (by simp only [setAll, List.setIfInBounds_toArray, List.set_cons_succ, List.set_cons_zero, Nat.reduceAdd, Nat.zero_add] <;> rfl)) ?_
    rintro _ _ ⟨rfl, rfl⟩
    refine O_nil ?_
    refine W_seq ?_
    refine W_reg rfl ?_
    refine O_qs (q_assign rfl) ?_
    refine O_nil ?_
    refine W_seq ?_
    refine W_seq ?_
    refine W_reg rfl ?_
    refine O_qs (q_assign rfl) ?_
    refine O_nil ?_
    refine W_block ?_
    refine W_conv (ctx' := [[(b9, .cells #[.int .i64 0] 3 (0, 0))], oraw b33 (.slice none 0 0), A, uraw b30 x 0 (.slice none 0 0) 0 0 0, coreA cb qb x 0 ⟨0, 0⟩ 0, qraw qb v h 0, R, [(b2, .cells #[.int .i64 x.kind, .int .i64 x.slots, .int .i64 x.buckets, .int .i64 x.height, .int .i64 x.limit] 23 (0, 0))], [], []]) rfl ?_
    refine W_loopD (fun (d : Nat × Stt × Int) => [(11, .int .i64 (d.1 : Int)), (10, .int .i64 d.2.2), (9, ptr b9), (8, ptr b33), (7, ptr wb), (6, ptr b30), (5, ptr cb), (2, ptr b2), (1, .slice sa acts.length cap)]) (fun d => [(b2, .cells #[.int .i64 x.kind, .int .i64 x.slots, .int .i64 x.buckets, .int .i64 x.height, .int .i64 x.limit] 23 (0, 0))] :: d.2.1.ctx cb qb b30 b33 b9 x) (fun d => acts.length - d.1) (fun d => d.1 ≤ acts.length ∧ d.1 ≤ 100 ∧ d.2.1.Ok wb d.1 ∧ d.2.1.cnt.loads = d.2.2 ∧ 0 ≤ d.2.2 ∧ d.2.2 ≤ d.1) (0, ⟨0, ⟨0, 0⟩, 0, v, h, [], R, ring, k, .slice none 0 0, 0, [], A, [], Count.zero, .slice none 0 0, [], [], 0⟩, 0) ?_ (by repeat (first | exact Sub.nil | refine Sub.cons rfl ?_)) (by repeat (first | exact Pick.nil | exact Take.here | apply Pick.cons | apply Take.there)) ?_
    · refine ⟨Nat.zero_le _, Nat.zero_le _, ⟨hq, hA, Row.nil .., Row.nil .., fun _ => rfl, fun hz => absurd rfl hz, fun y hy => (by cases hy), rfl, Nat.le_refl _⟩, rfl, Int.le_refl _, Int.le_refl _⟩
    · rintro ⟨i, d, n⟩ ⟨hi, hi100, hd, hcnt, hn0, hn1⟩
      dsimp only at hi hi100 hd hcnt hn0 hn1 ⊢
      refine W_seq ?_
      refine W_seq ?_
      refine W_reg rfl ?_
      refine O_qs (q_move rfl) ?_
      refine O_qs (q_move rfl) ?_
      refine O_qs (q_len Try.runUnderlying24 rfl) ?_
      refine O_qs (q_lss rfl rfl) ?_
      refine O_qs (q_move rfl) ?_
      refine O_qs (QY.cond0 rfl rfl rfl (fun H => q_move rfl)) ?_
      refine O_qs (QY.cond0 rfl rfl rfl (fun H => q_lss (gvh rfl H) rfl)) ?_
      refine O_qs (q_and rfl rfl rfl) ?_
      refine O_nil ?_
      refine W_cond rfl ?_ ?_
      · intro hc
        have hc' : i < acts.length ∧ i < 100 := by simp at hc; omega
        have hai : acts[i]? = some acts[i] := List.getElem?_eq_getElem hc'.1
        have hak := hok acts[i] (List.getElem_mem hc'.1)
        obtain ⟨ab, ao, rfl⟩ := hb.ptr hc'.1
        generalize acts[i] = a at hai hak
        refine W_skip ?_
        refine W_seq ?_
        refine W_block ?_
        refine W_seq ?_
        refine W_seq ?_
        refine W_reg rfl ?_
        refine O_qs (q_move rfl) ?_
        refine O_qs (q_move rfl) ?_
        refine O_qs (q_ian Try.runUnderlying24 Try.sizeOf47 rfl rfl hc'.1) ?_
        refine O_qs (q_fa fa_47_0 rfl) ?_
        refine O_qs (q_load Try.isAgg3 rfl (hb.rd hai (j := 0) rfl rfl)) ?_
        refine O_qs (q_geq rfl rfl) ?_
        refine O_qs (q_move rfl) ?_
        refine O_qs (QY.cond0 rfl rfl rfl (fun H => q_move rfl)) ?_
        refine O_qs (QY.cond0 rfl rfl rfl (fun H => q_move rfl)) ?_
        refine O_qs (QY.cond0 rfl rfl rfl (fun H => q_ian Try.runUnderlying24 Try.sizeOf47 (gvh rfl H) (gvh rfl H) hc'.1)) ?_
        refine O_qs (QY.cond0 rfl rfl rfl (fun H => q_fa fa_47_0 (gvh rfl H))) ?_
        refine O_qs (QY.cond0 rfl rfl rfl (fun H => q_load Try.isAgg3 (gvh rfl H) (hb.rd hai (j := 0) rfl rfl))) ?_
        refine O_qs (QY.cond0 rfl rfl rfl (fun H => q_leq (gvh rfl H) rfl)) ?_
        refine O_qs (q_and rfl rfl rfl) ?_
        refine O_nil ?_
        refine W_cut (fun (n' : Int) => [(11, .int .i64 (i : Int)), (10, .int .i64 n'), (9, ptr b9), (8, ptr b33), (7, ptr wb), (6, ptr b30), (5, ptr cb), (2, ptr b2), (1, .slice (some ⟨ab, ao, none⟩) acts.length cap)]) (fun _ => [(b2, .cells #[.int .i64 x.kind, .int .i64 x.slots, .int .i64 x.buckets, .int .i64 x.height, .int .i64 x.limit] 23 (0, 0))] :: d.ctx cb qb b30 b33 b9 x) (fun n' => n' = if a.looks then n + 1 else n) ?_ ?_
        · refine W_cond rfl ?_ ?_
          · intro hc
            have hlk : a.looks = true := by
              unfold Deed.looks
              simp at hc ⊢
              omega
            refine W_reg rfl ?_
            refine O_qs (q_move rfl) ?_
            refine O_qs (q_add (w64 (by omega)) rfl rfl) ?_
            refine O_qs (q_assign rfl) ?_
            refine O_nil ?_
            refine ⟨(n + 1), _, ?_, (by repeat (first | exact Sub.nil | refine Sub.cons rfl ?_)), (by repeat (first | exact Pick.nil | exact Take.here | apply Pick.cons | apply Take.there))⟩
            rw [if_pos hlk]
          · intro hc
            have hlk : ¬ a.looks = true := by
              unfold Deed.looks
              simp at hc ⊢
              omega
            refine W_skip ?_
            refine ⟨n, _, ?_, (by repeat (first | exact Sub.nil | refine Sub.cons rfl ?_)), (by repeat (first | exact Pick.nil | exact Take.here | apply Pick.cons | apply Take.there))⟩
            rw [if_neg hlk]
        · rintro n' hn'
          have hn01 : 0 ≤ n' ∧ n' ≤ i + 1 := by rw [hn']; split <;> omega
          refine W_seq ?_
          refine W_seq ?_
          refine W_reg rfl ?_
          refine O_qs (q_move rfl) ?_
          refine O_qs (q_move rfl) ?_
          refine O_qs (q_move rfl) ?_
          refine O_qs (q_move rfl) ?_
          refine O_qs (q_move rfl) ?_
          refine O_qs (q_move rfl) ?_
          refine O_qs (q_ian Try.runUnderlying24 Try.sizeOf47 rfl rfl hc'.1) ?_
          refine O_qs (q_loadN (vs := Deed.l a) Try.isAgg47 Try.sizeOf47 rfl (hb.rds hai rfl)) ?_
          refine O_es (e_cf Try.call11 rfl (fun wd hwd => (law13_does _ cb qb b30 wb b33 b9 x d i hd (by omega) a hak.1 hak.2)) (by repeat (first | exact Pick.nil | exact Take.here | apply Pick.cons | apply Take.there))) ?_
          rintro _ _ ⟨_, ⟨d', hd', hl', rfl, rfl⟩, rfl⟩
          refine O_qs (q_not rfl) ?_
          refine O_nil ?_
          have hcnt' : d'.cnt.loads = n' := by
            rw [hl', hn', hcnt]
            split
            · exact w64 (by omega)
            · rfl
          clear hl' hn' hcnt hd
          obtain ⟨e', h', r', v', hdq, L', R', ring', k', v3', n3', R3', A', l', cnt', v2', R2', l2', idv'⟩ := d'
          have hd2 := hd'
          obtain ⟨q', p', o', f', z', i', rt', m', ll'⟩ := hd'
          dsimp only at q' p' o' f' z' i' rt' m' ll' hcnt'
          obtain ⟨ua, uc, rfl⟩ := f'.len
          refine W_false rfl ?_
          refine W_skip ?_
          refine W_seq ?_
          refine W_reg rfl ?_
          refine O_qs (q_move rfl) ?_
          refine O_qs (q_cf Try.call12 rfl (fun wd hwd => (core_Held _ cb qb x e' h' r')) (by repeat (first | exact Pick.nil | exact Take.here | apply Pick.cons | apply Take.there))) ?_
          refine O_qs (q_move rfl) ?_
          refine O_qs (q_extract rfl rfl) ?_
          refine O_qs (q_extract rfl rfl) ?_
          refine O_es (e_alloc (cs := #[.int .i64 0, .int .i64 0]) Try.zeroValue43 rfl) ?_
          rintro _ _ ⟨b12, rfl, rfl⟩
          refine O_en (e_storeN (vs := [_, _]) Try.sizeOf43 rfl rfl rfl (by repeat (first | exact Upd.here | apply Upd.there)) rfl (by simp only [setAll, List.setIfInBounds_toArray, List.set_cons_succ, List.set_cons_zero, Nat.reduceAdd, Nat.zero_add] <;> rfl)) ?_
          rintro _ _ ⟨rfl, rfl⟩
          refine O_qs (q_assign rfl) ?_
          refine O_nil ?_
          refine W_seq ?_
          refine W_reg rfl ?_
          refine O_qs (q_move rfl) ?_
          refine O_qs (q_cf Try.call13 rfl (fun wd hwd => (core_Queue _ cb qb x e' h' r')) (by repeat (first | exact Pick.nil | exact Take.here | apply Pick.cons | apply Take.there))) ?_
          refine O_es (e_cf Try.call14 rfl (fun wd hwd => (queue_List _ qb R' v' ring' k' hdq (i + 1) L' q' (by omega))) (by repeat (first | exact Pick.nil | exact Take.here | apply Pick.cons | apply Take.there))) ?_
          rintro _ _ ⟨_, ⟨RA, hRA, rfl⟩, rfl⟩
          refine O_qs (q_assign rfl) ?_
          refine O_nil ?_
          refine W_seq ?_
          refine W_seq ?_
          refine W_draw [[], [0], [], [0, 1, 2], [0, 1, 2, 3], [0, 1, 2, 3, 4], [0, 1, 2, 3, 4], [0, 1, 2, 3, 4, 6], [0, 1, 2, 3, 4, 6, 7], [0, 1, 2, 3, 4, 6, 7, 8], [0, 1, 2, 3, 4, 6, 7, 8, 9], [0, 1, 2, 3, 4, 5, 6, 7, 8, 9, 10], [0, 1, 2, 3, 4, 5, 6, 7, 8, 9, 10, 11], [0, 1, 2, 3, 4, 5, 6, 7, 8, 9, 10, 11, 12], [0, 1, 2, 3, 4, 5, 6, 7, 8, 9, 10, 11, 12, 13], [0, 1, 2, 3, 4, 5, 6, 7, 8, 9, 10, 11, 12, 13, 14], [0, 1, 2, 3, 4, 5, 6, 7, 8, 9, 10, 11, 12, 13], [0, 1, 2, 3, 4, 5, 6, 7, 8, 9, 10, 11, 12, 13, 16], [0, 1, 2, 3, 4, 5, 6, 7, 8, 9, 10, 11, 12, 13, 16, 17], [0, 1, 2, 3, 4, 5, 6, 7, 8, 9, 10, 11, 12, 13, 16, 17, 18], [0, 1, 2, 3, 4, 5, 6, 7, 8, 9, 10, 11, 12, 13, 14, 15, 16, 17, 18, 19], [0, 1, 2, 3, 4, 5, 6, 7, 8, 9, 10, 11, 12, 13, 14, 15, 16, 17, 18, 19, 20], [0, 1, 2, 3, 4, 5, 6, 7, 8, 9, 10, 11, 12, 13, 14, 15, 16, 17, 18, 19, 20, 21], [0, 1, 2, 3, 4, 5, 6, 7, 8, 9, 10, 11, 12, 13, 14, 15, 16, 17, 18, 19, 20, 21, 22], [0, 1, 2, 3, 4, 5, 6, 7, 8, 9, 10, 11, 12, 13, 14, 15, 16, 17, 18, 19, 20, 21, 22, 23], [0, 1, 2, 3, 4, 5, 6, 7, 8, 9, 10, 11, 12, 13, 14, 15, 16, 17, 18, 19, 20, 21, 22], [0, 1, 2, 3, 4, 5, 6, 7, 8, 9, 10, 11, 12, 13, 14, 15, 16, 17, 18, 19, 20, 21, 22, 25], [0, 1, 2, 3, 4, 5, 6, 7, 8, 9, 10, 11, 12, 13, 14, 15, 16, 17, 18, 19, 20, 21, 22, 25, 26], [0, 1, 2, 3, 4, 5, 6, 7, 8, 9, 10, 11, 12, 13, 14, 15, 16, 17, 18, 19, 20, 21, 22, 25, 26, 27], [0, 1, 2, 3, 4, 5, 6, 7, 8, 9, 10, 11, 12, 13, 14, 15, 16, 17, 18, 19, 20, 21, 22, 25, 26, 27, 28], [0, 1, 2, 3, 4, 5, 6, 7, 8, 9, 10, 11, 12, 13, 14, 15, 16, 17, 18, 19, 20, 21, 22, 25, 26, 27, 28, 29], [0, 1, 2, 3, 4, 5, 6, 7, 8, 9, 10, 11, 12, 13, 14, 15, 16, 17, 18, 19, 20, 21, 22, 23, 24, 25, 26, 27, 28, 29, 30], [0, 1, 2, 3, 4, 5, 6, 7, 8, 9, 10, 11, 12, 13, 14, 15, 16, 17, 18, 19, 20, 21, 22, 23, 24, 25, 26, 27, 28, 29, 30, 31], [0, 1, 2, 3, 4, 5, 6, 7, 8, 9, 10, 11, 12, 13, 14, 15, 16, 17, 18, 19, 20, 21, 22, 23, 24, 25, 26, 27, 28, 29, 30, 31, 32], [0, 1, 2, 3, 4, 5, 6, 7, 8, 9, 10, 11, 12, 13, 14, 15, 16, 17, 18, 19, 20, 21, 22, 23, 24, 25, 26, 27, 28, 29, 30, 31, 32, 33], [0, 1, 2, 3, 4, 5, 6, 7, 8, 9, 10, 11, 12, 13, 14, 15, 16, 17, 18, 19, 20, 21, 22, 23, 24, 25, 26, 27, 28, 29, 30, 31, 32, 33, 34], [0, 1, 2, 3, 4, 5, 6, 7, 8, 9, 10, 11, 12, 13, 14, 15, 16, 17, 18, 19, 20, 21, 22, 23, 24, 25, 26, 27, 28, 29, 30, 31, 32, 33], [0, 1, 2, 3, 4, 5, 6, 7, 8, 9, 10, 11, 12, 13, 14, 15, 16, 17, 18, 19, 20, 21, 22, 23, 24, 25, 26, 27, 28, 29, 30, 31, 32, 33, 36], [0, 1, 2, 3, 4, 5, 6, 7, 8, 9, 10, 11, 12, 13, 14, 15, 16, 17, 18, 19, 20, 21, 22, 23, 24, 25, 26, 27, 28, 29, 30, 31, 32, 33, 36, 37], [0, 1, 2, 3, 4, 5, 6, 7, 8, 9, 10, 11, 12, 13, 14, 15, 16, 17, 18, 19, 20, 21, 22, 23, 24, 25, 26, 27, 28, 29, 30, 31, 32, 33, 36, 37, 38], [0, 1, 2, 3, 4, 5, 6, 7, 8, 9, 10, 11, 12, 13, 14, 15, 16, 17, 18, 19, 20, 21, 22, 23, 24, 25, 26, 27, 28, 29, 30, 31, 32, 33, 34, 35, 36, 37, 38, 39], [0, 1, 2, 3, 4, 5, 6, 7, 8, 9, 10, 11, 12, 13, 14, 15, 16, 17, 18, 19, 20, 21, 22, 23, 24, 25, 26, 27, 28, 29, 30, 31, 32, 33, 34, 35, 36, 37, 38, 39, 40], [0, 1, 2, 3, 4, 5, 6, 7, 8, 9, 10, 11, 12, 13, 14, 15, 16, 17, 18, 19, 20, 21, 22, 23, 24, 25, 26, 27, 28, 29, 30, 31, 32, 33, 34, 35, 36, 37, 38, 39, 40, 41], [0, 1, 2, 3, 4, 5, 6, 7, 8, 9, 10, 11, 12, 13, 14, 15, 16, 17, 18, 19, 20, 21, 22, 23, 24, 25, 26, 27, 28, 29, 30, 31, 32, 33, 34, 35, 36, 37, 38, 39, 40, 41, 42], [0, 1, 2, 3, 4, 5, 6, 7, 8, 9, 10, 11, 12, 13, 14, 15, 16, 17, 18, 19, 20, 21, 22, 23, 24, 25, 26, 27, 28, 29, 30, 31, 32, 33, 34, 35, 36, 37, 38, 39, 40, 41, 42, 43], [0, 1, 2, 3, 4, 5, 6, 7, 8, 9, 10, 11, 12, 13, 14, 15, 16, 17, 18, 19, 20, 21, 22, 23, 24, 25, 26, 27, 28, 29, 30, 31, 32, 33, 34, 35, 36, 37, 38, 39, 40, 41, 42, 43, 44], [0, 1, 2, 3, 4, 5, 6, 7, 8, 9, 10, 11, 12, 13, 14, 15, 16, 17, 18, 19, 20, 21, 22, 23, 24, 25, 26, 27, 28, 29, 30, 31, 32, 33, 34, 35, 36, 37, 38, 39, 40, 41, 42], [0, 1, 2, 3, 4, 5, 6, 7, 8, 9, 10, 11, 12, 13, 14, 15, 16, 17, 18, 19, 20, 21, 22, 23, 24, 25, 26, 27, 28, 29, 30, 31, 32, 33, 34, 35, 36, 37, 38, 39, 40, 41, 42, 43, 44, 45, 46], [0, 1, 2, 3, 4, 5, 6, 7, 8, 9, 10, 11, 12, 13, 14, 15, 16, 17, 18, 19, 20, 21, 22, 23, 24, 25, 26, 27, 28, 29, 30, 31, 32, 33, 34, 35, 36, 37, 38, 39, 40, 41, 42, 43, 44, 45, 46, 47]] rfl rfl rfl ?_
          refine V.qs 0 rfl rfl (q_move rfl) ?_
          refine V.qs 2 rfl rfl (q_loadN (vs := [_, _, _, _, _]) Try.isAgg23 Try.sizeOf23 rfl (rd_range (by repeat (first | exact List.Mem.head _ | apply List.Mem.tail)) rfl)) ?_
          obtain ⟨la, lc, rfl⟩ := hRA.len
          refine V.qs 1 rfl rfl (q_cf Try.call15 rfl (fun wd hwd => (core_Conf _ cb qb x e' h' r')) (by repeat (first | exact Pick.nil | exact Take.here | apply Pick.cons | apply Take.there))) ?_
          refine V.qs 3 rfl rfl (q_bin neq_23 rfl rfl) ?_
          refine V.qs 4 rfl rfl (q_move rfl) ?_
          refine V.qs 5 rfl rfl (QY.cond0 rfl rfl rfl (fun H => q_move rfl)) ?_
          refine V.qs 6 rfl rfl (QY.cond0 rfl rfl rfl (fun H => q_move rfl)) ?_
          refine V.qs 7 rfl rfl (QY.cond0 rfl rfl rfl (fun H => q_nil (gvh rfl H))) ?_
          refine V.qs 8 rfl rfl (QY.cond0 rfl rfl rfl (fun H => q_fa fa_34_3 (gvh rfl H))) ?_
          refine V.qs 9 rfl rfl (QY.cond0 rfl rfl rfl (fun H => q_load Try.isAgg3 (gvh rfl H) (rd_chunk (by repeat (first | exact List.Mem.head _ | apply List.Mem.tail)) rfl))) ?_
          refine V.qs 10 rfl rfl (QY.cond0 rfl rfl rfl (fun H => q_neq (gvh rfl H) rfl)) ?_
          refine V.qs 11 rfl rfl (QY.cond0 rfl rfl rfl (fun H => q_neb Try.runUnderlying4 (gvh rfl H) (gvh rfl H))) ?_
          refine V.qs 12 rfl rfl (q_or rfl rfl rfl) ?_
          refine V.qs 13 rfl rfl (q_move rfl) ?_
          refine V.qs 14 rfl rfl (QY.cond0 rfl rfl rfl (fun H => q_fa fa_43_0 rfl)) ?_
          refine V.qs 15 rfl rfl (QY.cond0 rfl rfl rfl (fun H => q_load Try.isAgg3 (gvh rfl H) (rd_chunk (by repeat (first | exact List.Mem.head _ | apply List.Mem.tail)) rfl))) ?_
          refine V.qs 16 rfl rfl (QY.cond0 rfl rfl rfl (fun H => q_move rfl)) ?_
          refine V.qs 17 rfl rfl (QY.cond0 rfl rfl rfl (fun H => q_nil (gvh rfl H))) ?_
          refine V.qs 18 rfl rfl (QY.cond0 rfl rfl rfl (fun H => q_fa fa_34_3 (gvh rfl H))) ?_
          refine V.qs 19 rfl rfl (QY.cond0 rfl rfl rfl (fun H => q_load Try.isAgg3 (gvh rfl H) (rd_chunk (by repeat (first | exact List.Mem.head _ | apply List.Mem.tail)) rfl))) ?_
          refine V.qs 20 rfl rfl (QY.cond0 rfl rfl rfl (fun H => q_neq (gvh rfl H) (gvh rfl H))) ?_
          refine V.qs 21 rfl rfl (q_or rfl rfl rfl) ?_
          refine V.qs 22 rfl rfl (q_move rfl) ?_
          refine V.qs 23 rfl rfl (QY.cond0 rfl rfl rfl (fun H => q_move rfl)) ?_
          refine V.qs 24 rfl rfl (QY.cond0 rfl rfl rfl (fun H => q_len Try.runUnderlying52 (gvh rfl H))) ?_
          refine V.qs 25 rfl rfl (QY.cond0 rfl rfl rfl (fun H => q_move rfl)) ?_
          refine V.qs 26 rfl rfl (QY.cond0 rfl rfl rfl (fun H => q_nil (gvh rfl H))) ?_
          refine V.qs 27 rfl rfl (QY.cond0 rfl rfl rfl (fun H => q_fa fa_34_2 (gvh rfl H))) ?_
          refine V.qs 28 rfl rfl (QY.cond0 rfl rfl rfl (fun H => q_fa fa_32_0 (gvh rfl H))) ?_
          refine V.qs 29 rfl rfl (QY.cond0 rfl rfl rfl (fun H => q_load Try.isAgg30 (gvh rfl H) (rd_chunk (by repeat (first | exact List.Mem.head _ | apply List.Mem.tail)) rfl))) ?_
          refine V.qs 30 rfl rfl (QY.cond0 rfl rfl rfl (fun H => q_len Try.runUnderlying30 (gvh rfl H))) ?_
          refine V.qs 31 rfl rfl (QY.cond0 rfl rfl rfl (fun H => q_neq (gvh rfl H) (gvh rfl H))) ?_
          refine V.qs 32 rfl rfl (q_or rfl rfl rfl) ?_
          refine V.qs 33 rfl rfl (q_move rfl) ?_
          refine V.qs 34 rfl rfl (QY.cond0 rfl rfl rfl (fun H => q_move rfl)) ?_
          refine V.qs 36 rfl rfl (QY.cond0 rfl rfl rfl (fun H => q_move rfl)) ?_
          refine V.qs 37 rfl rfl (QY.cond0 rfl rfl rfl (fun H => q_nil (gvh rfl H))) ?_
          refine V.qs 38 rfl rfl (QY.cond0 rfl rfl rfl (fun H => q_fa fa_34_4 (gvh rfl H))) ?_
          refine V.qs 39 rfl rfl (QY.cond0 rfl rfl rfl (fun H => q_load Try.isAgg3 (gvh rfl H) (rd_chunk (by repeat (first | exact List.Mem.head _ | apply List.Mem.tail)) rfl))) ?_
          refine V.qs 35 rfl rfl (QY.cond0 rfl rfl rfl (fun H => q_cf Try.call16 (ev_cons (gvh rfl H) ev_nil) (fun wd hwd => (core_Rolls _ cb qb x e' h' r')) (by repeat (first | exact Pick.nil | exact Take.here | apply Pick.cons | apply Take.there)))) ?_
          refine V.qs 40 rfl rfl (QY.cond0 rfl rfl rfl (fun H => q_neq (gvh rfl H) (gvh rfl H))) ?_
          refine V.qs 41 rfl rfl (q_or rfl rfl rfl) ?_
          refine V.qs 42 rfl rfl (q_move rfl) ?_
          refine V.qs 43 rfl rfl (QY.cond0 rfl rfl rfl (fun H => q_move rfl)) ?_
          refine V.qs 46 rfl rfl (QY.cond0 rfl rfl rfl (fun H => q_move rfl)) ?_
          refine V.qs 44 rfl rfl (QY.cond0 rfl rfl rfl (fun H => q_cf Try.call17 (ev_cons (gvh rfl H) ev_nil) (fun wd hwd => (world_Count _ A' wb cnt' l' p')) (by repeat (first | exact Pick.nil | exact Take.here | apply Pick.cons | apply Take.there)))) ?_
          refine V.qs 45 rfl rfl (QY.cond0 rfl rfl rfl (fun H => q_field (fd_59_0 rfl) (gvh rfl H))) ?_
          refine V.qs 47 rfl rfl (QY.cond0 rfl rfl rfl (fun H => q_neq (gvh rfl H) (gvh rfl H))) ?_
          refine V.qs 48 rfl rfl (q_or rfl rfl rfl) ?_
          refine V.fin rfl ?_
          refine W_fa rfl ((by simp [hcnt'])) ?_
          refine W_skip ?_
          refine W_seq ?_
          refine W_reg rfl ?_
          refine O_qs (q_assign rfl) ?_
          refine O_nil ?_
          refine W_block ?_
          have hbn := q'.bnd
          refine W_loopD (fun (j : Nat) => [(15, .int .i64 (j : Int)), (14, .slice la L'.length lc), (11, .int .i64 (i : Int)), (10, .int .i64 n'), (9, ptr b9), (8, ptr b33), (7, ptr wb), (6, ptr b30), (5, ptr cb), (2, ptr b2), (1, .slice (some ⟨ab, ao, none⟩) acts.length cap)]) (fun _ => RA :: [(b2, .cells #[.int .i64 x.kind, .int .i64 x.slots, .int .i64 x.buckets, .int .i64 x.height, .int .i64 x.limit] 23 (0, 0))] :: (Stt.mk e' h' r' v' hdq L' R' ring' k' (.slice ua (L'.map refE).length uc) n3' R3' A' l' cnt' v2' R2' l2' idv').ctx cb qb b30 b33 b9 x) (fun j => L'.length - j) (fun j => j ≤ L'.length) 0 ?_ (by repeat (first | exact Sub.nil | refine Sub.cons rfl ?_)) (by repeat (first | exact Pick.nil | exact Take.here | apply Pick.cons | apply Take.there)) ?_
          · exact Nat.zero_le _
          · intro j hj
            refine W_seq ?_
            refine W_seq ?_
            refine W_reg rfl ?_
            refine O_qs (q_move rfl) ?_
            refine O_qs (q_move rfl) ?_
            refine O_qs (q_len Try.runUnderlying52 rfl) ?_
            refine O_qs (q_lss rfl rfl) ?_
            refine O_nil ?_
            refine W_cond rfl ?_ ?_
            · intro hjc
              have hjl : j < L'.length := by simpa using hjc
              have hL : L'[j]? = some L'[j] := List.getElem?_eq_getElem hjl
              have hM : (L'.map refE)[j]? = some (refE L'[j]) := by rw [List.getElem?_map, hL]; rfl
              have hrt := rt' L'[j] (List.getElem_mem hjl)
              obtain ⟨g1, c1, e1⟩ := hRA.ptr (by omega)
              obtain ⟨g2, c2, e2⟩ := f'.ptr (by simp; omega)
              simp only [Value.slice.injEq, true_and] at e1 e2
              obtain ⟨rfl, rfl⟩ := e1
              obtain ⟨rfl, rfl⟩ := e2
              have hjm : j < (L'.map refE).length := by simpa using hjl
              refine W_skip ?_
              refine W_seq ?_
              refine W_block ?_
              refine W_seq ?_
              refine W_draw [[], [], [0, 1], [0, 1, 2], [0, 1, 2, 3], [], [5], [5, 6], [5, 6, 7], [5, 6, 7, 8], [], [5, 6, 7, 8, 9, 10], [5, 6, 7, 8, 9, 10, 11], [5, 6, 7, 8, 9, 10, 11, 12], [0, 1, 2, 3, 4, 5, 6, 7, 8, 9, 10, 11, 12, 13], [0, 1, 2, 3, 4, 5, 6, 7, 8, 9, 10, 11, 12, 13, 14], [0, 1, 2, 3, 4, 5, 6, 7, 8, 9, 10, 11, 12, 13, 14, 15], [0, 1, 2, 3, 4, 5, 6, 7, 8, 9, 10, 11, 12, 13, 14, 15], [0, 1, 2, 3, 4, 5, 6, 7, 8, 9, 10, 11, 12, 13, 14, 15, 16, 17], [0, 1, 2, 3, 4, 5, 6, 7, 8, 9, 10, 11, 12, 13, 14, 15, 16, 17, 18], [0, 1, 2, 3, 4, 5, 6, 7, 8, 9, 10, 11, 12, 13, 14, 15, 16, 17, 18, 19], [0, 1, 2, 3, 4, 5, 6, 7, 8, 9, 10, 11, 12, 13, 14, 15, 16, 17, 18, 19, 20], [0, 1, 2, 3, 4, 5, 6, 7, 8, 9, 10, 11, 12, 13, 14, 15, 16, 17, 18, 19, 20, 21]] rfl rfl rfl ?_
              refine V.qs 0 rfl rfl (q_move rfl) ?_
              refine V.qs 1 rfl rfl (q_move rfl) ?_
              refine V.qs 2 rfl rfl (q_ian Try.runUnderlying52 Try.sizeOf62 rfl rfl hjl) ?_
              refine V.qs 3 rfl rfl (q_fa fa_62_0 rfl) ?_
              refine V.qs 4 rfl rfl (q_load Try.isAgg3 rfl (hRA.rd (by repeat (first | exact List.Mem.head _ | apply List.Mem.tail)) hL (j := 0) rfl (by show 0 + j * 3 + 0 = _; simp [layE]))) ?_
              refine V.qs 5 rfl rfl (q_move rfl) ?_
              refine V.qs 6 rfl rfl (q_nil rfl) ?_
              refine V.qs 7 rfl rfl (q_fa fa_34_2 rfl) ?_
              refine V.qs 8 rfl rfl (q_fa fa_32_0 rfl) ?_
              refine V.qs 9 rfl rfl (q_load Try.isAgg30 rfl (rd_chunk (by repeat (first | exact List.Mem.head _ | apply List.Mem.tail)) rfl)) ?_
              refine V.qs 10 rfl rfl (q_move rfl) ?_
              refine V.qs 11 rfl rfl (q_ian Try.runUnderlying30 Try.sizeOf63 rfl rfl hjm) ?_
              refine V.qs 12 rfl rfl (q_fa fa_63_0 rfl) ?_
              refine V.qs 13 rfl rfl (q_load Try.isAgg3 rfl (f'.rd (by repeat (first | exact List.Mem.head _ | apply List.Mem.tail)) hM (j := 0) rfl (by show 0 + j * 3 + 0 = _; simp [layE]))) ?_
              refine V.qs 14 rfl rfl (q_neq rfl rfl) ?_
              refine V.qs 15 rfl rfl (q_move rfl) ?_
              refine V.qs 16 rfl rfl (QY.cond0 rfl rfl rfl (fun H => q_move rfl)) ?_
              refine V.qs 17 rfl rfl (QY.cond0 rfl rfl rfl (fun H => q_move rfl)) ?_
              refine V.qs 18 rfl rfl (QY.cond0 rfl rfl rfl (fun H => q_ian Try.runUnderlying52 Try.sizeOf62 (gvh rfl H) (gvh rfl H) hjl)) ?_
              refine V.qs 19 rfl rfl (QY.cond0 rfl rfl rfl (fun H => q_fa fa_62_1 (gvh rfl H))) ?_
              refine V.qs 20 rfl rfl (QY.cond0 rfl rfl rfl (fun H => q_load Try.isAgg3 (gvh rfl H) (hRA.rd (by repeat (first | exact List.Mem.head _ | apply List.Mem.tail)) hL (j := 1) rfl (by show 0 + j * 3 + 1 = _; simp [layE])))) ?_
              refine V.qs 21 rfl rfl (QY.cond0 rfl rfl rfl (fun H => q_neq (gvh rfl H) rfl)) ?_
              refine V.qs 22 rfl rfl (q_or rfl rfl rfl) ?_
              refine V.fin rfl ?_
              refine W_fa rfl ((by simp [refE, hrt])) ?_
              refine W_skip ?_
              refine W_reg rfl ?_
              refine O_qs (q_move rfl) ?_
              refine O_qs (q_add (w64 (by omega)) rfl rfl) ?_
              refine O_qs (q_assign rfl) ?_
              refine O_nil ?_
              refine ⟨(j + 1), _, ?_, ?_, (by repeat (first | exact Sub.nil | refine Sub.cons rfl ?_)), (by repeat (first | exact Pick.nil | exact Take.here | apply Pick.cons | apply Take.there))⟩
              · exact hjl
              · omega
            · intro hjc
              refine W_exit ?_
              refine W_reg rfl ?_
              refine O_qs (q_move rfl) ?_
              refine O_qs (q_add (c := ((i + 1 : Nat) : Int)) (w64' (by omega) (by omega)) rfl rfl) ?_
              refine O_qs (q_assign rfl) ?_
              refine O_nil ?_
              refine ⟨(i + 1, (Stt.mk e' h' r' v' hdq L' R' ring' k' (.slice ua (L'.map refE).length uc) n3' R3' A' l' cnt' v2' R2' l2' idv'), n'), _, ?_, ?_, (by repeat (first | exact Sub.nil | refine Sub.cons rfl ?_)), (by repeat (first | exact Pick.nil | exact Take.here | apply Pick.cons | apply Take.there))⟩
              · exact ⟨hc'.1, hc'.2, hd2, hcnt', hn01.1, hn01.2⟩
              · dsimp only
                omega
      · intro hc
        refine W_exit ?_
        refine W_seq ?_
        refine W_reg rfl ?_
        refine O_qs (q_assign rfl) ?_
        refine O_nil ?_
        refine W_ret ?_
        refine res1 (c0 := []) rfl rfl (by repeat (first | exact Pick.nil | exact Take.here | apply Pick.cons | apply Take.there)) rfl ?_
        exact ⟨rfl, rfl⟩
  · refine Ctr.intro (n := 156) Try.func3 rfl Try.ntmps3 (Nat.le_of_ble_eq_true rfl) ?_
    refine W_seq ?_
    refine W_reg rfl ?_
    refine O_es (e_box (cs := #[_, _, _, _, _]) rfl rfl) ?_
    rintro _ _ ⟨b2, rfl, rfl⟩
    refine O_qs (q_assign rfl) ?_
    refine O_nil ?_
    refine W_seq ?_
    refine W_seq ?_
    refine W_reg rfl ?_
    refine O_qs (q_cf Try.call7 rfl (fun wd hwd => (law13_awake _)) (by repeat (first | exact Pick.nil | exact Take.here | apply Pick.cons | apply Take.there))) ?_
    refine O_qs (q_not rfl) ?_
    refine O_nil ?_
    refine W_false rfl ?_
    refine W_skip ?_
    refine W_seq ?_
    refine W_reg rfl ?_
    refine O_qs (q_loadN (vs := [_, _, _, _, _]) Try.isAgg23 Try.sizeOf23 rfl (rd_range (by repeat (first | exact List.Mem.head _ | apply List.Mem.tail)) rfl)) ?_
    refine O_qs (q_cf Try.call8 rfl (fun wd hwd => (core_New_bad _ x he)) (by repeat (first | exact Pick.nil | exact Take.here | apply Pick.cons | apply Take.there))) ?_
    refine O_qs (q_assign rfl) ?_
    refine O_nil ?_
    refine W_seq ?_
    refine W_seq ?_
    refine W_reg rfl ?_
    refine O_qs (q_move rfl) ?_
    refine O_qs (q_nenil Try.runUnderlying26 rfl rfl) ?_
    refine O_qs (q_loadN (vs := [_, _, _, _, _]) Try.isAgg23 Try.sizeOf23 rfl (rd_range (by repeat (first | exact List.Mem.head _ | apply List.Mem.tail)) rfl)) ?_
    refine O_qs (q_cf Try.call9 rfl (fun wd hwd => (ref03_Check _ x)) (by repeat (first | exact Pick.nil | exact Take.here | apply Pick.cons | apply Take.there))) ?_
    refine O_qs (q_eql rfl rfl) ?_
    refine O_qs (q_neb Try.runUnderlying4 rfl rfl) ?_
    refine O_nil ?_
    refine W_fa rfl ((by simp [he])) ?_
    refine W_skip ?_
    refine W_seq ?_
    refine W_seq ?_
    refine W_reg rfl ?_
    refine O_qs (q_move rfl) ?_
    refine O_qs (q_eqnil Try.runUnderlying26 rfl rfl) ?_
    refine O_nil ?_
    refine W_true rfl ?_
    refine W_seq ?_
    refine W_reg rfl ?_
    refine O_qs (q_assign rfl) ?_
    refine O_nil ?_
    refine W_ret ?_
    refine res1 (c0 := []) rfl rfl (by repeat (first | exact Pick.nil | exact Take.here | apply Pick.cons | apply Take.there)) rfl ?_
    exact ⟨rfl, rfl⟩
end Go.Proofs.Ytaphhhnnplljdaa
