/-
  Walks: slots by rising keys.
-/
import Derived.Test.YtaphhhnnplljdaaSk6
set_option linter.unusedSimpArgs false
set_option linter.unusedVariables false
namespace Go.Proofs.Ytaphhhnnplljdaa
open Go Go.SL

theorem law15_sorted (B : World) (sa : Option Addr) (n cap : Nat) (L : List Nd) (hn : L.length = n) (hb : BaseRow layN B sa L) (hL : L.length ≤ 9223372036854775807) (hw : ∀ x, x ∈ L → NdW x) :
    Ctr Try.prog 19 [.slice sa n cap] B [] (fun u c => ∃ N S, Row layN 74 N u S ∧ Good S ∧ c = [N]) := by
  refine Ctr.intro (n := 76) Try.func19 rfl Try.ntmps19 (Nat.le_of_ble_eq_true rfl) ?_
  refine W_seq ?_
  refine W_reg rfl ?_
  refine O_qs (q_assign rfl) ?_
  refine O_nil ?_
  refine W_seq ?_
  refine W_reg rfl ?_
  refine O_qs (q_move rfl) ?_
  refine O_es (e_cf Try.call74 rfl (fun wd hwd => (law15_nodes _ sa n cap L hn (hb.still hwd) hL hw)) (by repeat (first | exact Pick.nil | exact Take.here | apply Pick.cons | apply Take.there))) ?_
  rintro _ _ ⟨_, ⟨N0, S0, hN0, hG0, rfl⟩, rfl⟩
  refine O_qs (q_assign rfl) ?_
  refine O_nil ?_
  refine W_seq ?_
  refine W_seq ?_
  obtain ⟨a2, c2, rfl⟩ := hN0.len
  have hle := hG0.le
  generalize hm : S0.length = m at hN0 hle ⊢
  refine W_reg rfl ?_
  refine O_qs (q_assign rfl) ?_
  refine O_nil ?_
  refine W_block ?_
  refine W_loopD (fun (d : Nat × Atom × List Nd) => [(4, .int .i64 (d.1 : Int)), (3, .slice a2 m c2)]) (fun d => [d.2.1]) (fun d => m - d.1) (fun (i, N, S) => 1 ≤ i ∧ i ≤ m + 1 ∧ S.length = m ∧ Good S ∧ Row layN 74 N (.slice a2 m c2) S) (1, N0, S0) ?_ (by repeat (first | exact Sub.nil | refine Sub.cons rfl ?_)) (by repeat (first | exact Pick.nil | exact Take.here | apply Pick.cons | apply Take.there)) ?_
  · exact ⟨Nat.le_refl _, Nat.le_add_left _ _, hm, hG0, hN0⟩
  · rintro ⟨i, N, S⟩ ⟨hi1, hi, hSl, hG, hN⟩
    dsimp only at hi1 hi hSl hG hN ⊢
    refine W_seq ?_
    refine W_seq ?_
    refine W_reg rfl ?_
    refine O_qs (q_move rfl) ?_
    refine O_qs (q_move rfl) ?_
    refine O_qs (q_len Try.runUnderlying65 rfl) ?_
    refine O_qs (q_lss rfl rfl) ?_
    refine O_nil ?_
    refine W_cond rfl ?_ ?_
    · intro hc
      have hlt : i < m := by simpa using hc
      obtain ⟨g, cap3, e⟩ := hN.ptr (by omega)
      simp only [Value.slice.injEq] at e
      obtain ⟨rfl, -, rfl⟩ := e
      refine W_skip ?_
      refine W_seq ?_
      refine W_block ?_
      refine W_seq ?_
      refine W_reg rfl ?_
      refine O_qs (q_move rfl) ?_
      refine O_qs (q_assign rfl) ?_
      refine O_nil ?_
      refine W_block ?_
      refine W_loopD (fun (d : Nat × Atom × List Nd) => [(5, .int .i64 (d.1 : Int)), (4, .int .i64 (i : Int)), (3, .slice (some ⟨g, 0, none⟩) m c2)]) (fun d => [d.2.1]) (fun d => d.1) (fun (k, N, S) => k < m ∧ S.length = m ∧ Good S ∧ Row layN 74 N (.slice (some ⟨g, 0, none⟩) m c2) S) (i, N, S) ?_ (by repeat (first | exact Sub.nil | refine Sub.cons rfl ?_)) (by repeat (first | exact Pick.nil | exact Take.here | apply Pick.cons | apply Take.there)) ?_
      · exact ⟨hlt, hSl, hG, hN⟩
      · rintro ⟨k, N, S⟩ ⟨hk, hSl, hG, hN⟩
        dsimp only at hk hSl hG hN ⊢
        have hkx : S[k]? = some S[k] := List.getElem?_eq_getElem (by omega)
        have hky : S[k - 1]? = some S[k - 1] := List.getElem?_eq_getElem (by omega)
        generalize S[k] = x at hkx
        generalize S[k - 1] = y at hky
        have hkm : k - 1 < m := Nat.lt_of_le_of_lt (Nat.sub_le _ _) hk
        refine W_seq ?_
        refine W_seq ?_
        refine W_draw [[], [0], [0, 1], [0, 1, 2], [0, 1, 2], [0, 1, 2, 3, 4], [0, 1, 2, 3, 4, 5], [0, 1, 2, 3, 4, 5, 6], [0, 1, 2], [0, 1, 2], [0, 1, 2, 9], [0, 1, 2, 8, 9, 10], [0, 1, 2, 8, 9, 10, 11], [0, 1, 2, 8, 9, 10, 11, 12], [0, 1, 2, 3, 4, 5, 6, 7, 8, 9, 10, 11, 12, 13], [0, 1, 2, 3, 4, 5, 6, 7, 8, 9, 10, 11, 12, 13, 14]] rfl rfl rfl ?_
        refine V.qs 0 rfl rfl (q_move rfl) ?_
        refine V.qs 1 rfl rfl (q_gtr rfl rfl) ?_
        refine V.qs 2 rfl rfl (q_move rfl) ?_
        refine V.qs 3 rfl rfl (QY.cond0 rfl rfl rfl (fun H => q_move rfl)) ?_
        refine V.qs 4 rfl rfl (QY.cond0 rfl rfl rfl (fun H => q_move rfl)) ?_
        refine V.qs 5 rfl rfl (QY.cond0 rfl rfl rfl (fun H => q_ian Try.runUnderlying65 Try.sizeOf74 (gvh rfl H) (gvh rfl H) hk)) ?_
        refine V.qs 6 rfl rfl (QY.cond0 rfl rfl rfl (fun H => q_fa fa_74_1 (gvh rfl H))) ?_
        refine V.qs 7 rfl rfl (QY.cond0 rfl rfl rfl (fun H => q_load Try.isAgg41 (gvh rfl H) (hN.rd (by repeat (first | exact List.Mem.head _ | apply List.Mem.tail)) hkx (j := 1) rfl (by show 0 + k * 4 + 1 = _; simp [layN])))) ?_
        refine V.qs 8 rfl rfl (QY.cond0 rfl rfl rfl (fun H => q_move rfl)) ?_
        refine V.qs 9 rfl rfl (QY.cond0 rfl rfl rfl (fun H => q_move rfl)) ?_
        refine V.qs 10 rfl rfl (QY.cond0 rfl rfl rfl (fun H => q_sub (c := ((k - 1 : Nat) : Int)) (by simp at H; exact w64' (by omega) (by omega)) (gvh rfl H) rfl)) ?_
        refine V.qs 11 rfl rfl (QY.cond0 rfl rfl rfl (fun H => q_ian Try.runUnderlying65 Try.sizeOf74 (gvh rfl H) (gvh rfl H) hkm)) ?_
        refine V.qs 12 rfl rfl (QY.cond0 rfl rfl rfl (fun H => q_fa fa_74_1 (gvh rfl H))) ?_
        refine V.qs 13 rfl rfl (QY.cond0 rfl rfl rfl (fun H => q_load Try.isAgg41 (gvh rfl H) (hN.rd (by repeat (first | exact List.Mem.head _ | apply List.Mem.tail)) hky (j := 1) rfl (by show 0 + (k - 1) * 4 + 1 = _; simp [layN])))) ?_
        refine V.qs 14 rfl rfl (QY.cond0 rfl rfl rfl (fun H => q_lss (gvh rfl H) (gvh rfl H))) ?_
        refine V.qs 15 rfl rfl (q_and rfl rfl rfl) ?_
        refine V.fin rfl ?_
        refine W_cond rfl ?_ ?_
        · intro hg
          have hk0 : 0 < k := by simp at hg; exact hg.1
          refine W_skip ?_
          refine W_seq ?_
          refine W_block ?_
          refine W_seq ?_
          refine W_reg rfl ?_
          refine O_qs (q_move rfl) ?_
          refine O_qs (q_move rfl) ?_
          refine O_qs (q_ian Try.runUnderlying65 Try.sizeOf74 rfl rfl hk) ?_
          refine O_qs (q_loadN (vs := Nd.l x) Try.isAgg74 Try.sizeOf74 rfl (hN.rds (by repeat (first | exact List.Mem.head _ | apply List.Mem.tail)) hkx (by show 0 + k * 4 = _; simp [layN]))) ?_
          refine O_es (e_alloc (cs := #[.int .i64 0, .int .u64 0, .int .u64 0, .bool false]) Try.zeroValue74 rfl) ?_
          rintro _ _ ⟨b6, rfl, rfl⟩
          refine O_en (e_storeN (vs := [_, _, _, _]) Try.sizeOf74 rfl rfl rfl (by repeat (first | exact Upd.here | apply Upd.there)) rfl (by simp only [setAll, List.setIfInBounds_toArray, List.set_cons_succ, List.set_cons_zero, Nat.reduceAdd, Nat.zero_add] <;> rfl)) ?_
          rintro _ _ ⟨rfl, rfl⟩
          refine O_nil ?_
          refine W_seq ?_
          refine W_reg rfl ?_
          refine O_qs (q_move rfl) ?_
          refine O_qs (q_move rfl) ?_
          refine O_qs (q_move rfl) ?_
          refine O_qs (q_move rfl) ?_
          refine O_qs (q_sub (c := ((k - 1 : Nat) : Int)) (w64' (by omega) (by omega)) rfl rfl) ?_
          refine O_qs (q_ian Try.runUnderlying65 Try.sizeOf74 rfl rfl hkm) ?_
          refine O_qs (q_loadN (vs := Nd.l y) Try.isAgg74 Try.sizeOf74 rfl (hN.rds (by repeat (first | exact List.Mem.head _ | apply List.Mem.tail)) hky (by show 0 + (k - 1) * 4 = _; simp [layN]))) ?_
          refine O_qs (q_ian Try.runUnderlying65 Try.sizeOf74 rfl rfl hk) ?_
          refine O_en (e_storeRow (vs := Nd.l y) (a' := y) (j := 0) Try.sizeOf74 hN (fun _ => (by repeat (first | exact Upd.here | apply Upd.there))) hkx rfl (by show 0 + k * 4 = _; simp [layN]) rfl rfl rfl (Nat.le_of_ble_eq_true rfl)) ?_
          rintro _ _ ⟨N5, hN5, rfl, rfl⟩
          refine O_nil ?_
          refine W_reg rfl ?_
          refine O_qs (q_move rfl) ?_
          refine O_qs (q_move rfl) ?_
          refine O_qs (q_sub (c := ((k - 1 : Nat) : Int)) (w64' (by omega) (by omega)) rfl rfl) ?_
          refine O_qs (q_loadN (vs := [_, _, _, _]) Try.isAgg74 Try.sizeOf74 rfl (rd_range (by repeat (first | exact List.Mem.head _ | apply List.Mem.tail)) rfl)) ?_
          refine O_qs (q_ian Try.runUnderlying65 Try.sizeOf74 rfl rfl hkm) ?_
          have hky2 : (S.set k y)[k - 1]? = some y := by rw [List.getElem?_set_ne (by omega)]; exact hky
          refine O_en (e_storeRow (vs := Nd.l x) (a' := x) (j := 0) Try.sizeOf74 hN5 (fun _ => (by repeat (first | exact Upd.here | apply Upd.there))) hky2 rfl (by show 0 + (k - 1) * 4 = _; simp [layN]) rfl rfl rfl (Nat.le_of_ble_eq_true rfl)) ?_
          rintro _ _ ⟨N6, hN6, rfl, rfl⟩
          refine O_nil ?_
          refine W_reg rfl ?_
          refine O_qs (q_move rfl) ?_
          refine O_qs (q_sub (c := ((k - 1 : Nat) : Int)) (w64' (by omega) (by omega)) rfl rfl) ?_
          refine O_qs (q_assign rfl) ?_
          refine O_nil ?_
          refine ⟨(k - 1, N6, (S.set k y).set (k - 1) x), _, ?_, ?_, (by repeat (first | exact Sub.nil | refine Sub.cons rfl ?_)), (by repeat (first | exact Pick.nil | exact Take.here | apply Pick.cons | apply Take.there))⟩
          · exact ⟨hkm, by simpa using hSl, hG.perm (swap_perm hkx hky).symm, hN6⟩
          · dsimp only; omega
        · intro hg
          refine W_exit ?_
          refine W_reg rfl ?_
          refine O_qs (q_move rfl) ?_
          refine O_qs (q_add (c := ((i + 1 : Nat) : Int)) (w64' (by omega) (by omega)) rfl rfl) ?_
          refine O_qs (q_assign rfl) ?_
          refine O_nil ?_
          refine ⟨(i + 1, N, S), _, ?_, ?_, (by repeat (first | exact Sub.nil | refine Sub.cons rfl ?_)), (by repeat (first | exact Pick.nil | exact Take.here | apply Pick.cons | apply Take.there))⟩
          · exact ⟨Nat.le_add_left _ _, by dsimp only; omega, hSl, hG, hN⟩
          · dsimp only; omega
    · intro hc
      refine W_exit ?_
      refine W_seq ?_
      refine W_seq ?_
      refine W_reg rfl ?_
      refine O_qs (q_assign rfl) ?_
      refine O_nil ?_
      refine W_block ?_
      refine W_loopD (fun (d : Nat × Atom × List Nd) => [(7, .int .i64 (d.1 : Int)), (3, .slice a2 m c2)]) (fun d => [d.2.1]) (fun d => m - d.1) (fun (i, N, S) => 1 ≤ i ∧ S.length = m ∧ Good S ∧ Row layN 74 N (.slice a2 m c2) S) (1, N, S) ?_ (by repeat (first | exact Sub.nil | refine Sub.cons rfl ?_)) (by repeat (first | exact Pick.nil | exact Take.here | apply Pick.cons | apply Take.there)) ?_
      · exact ⟨Nat.le_refl _, hSl, hG, hN⟩
      · rintro ⟨i, N, S⟩ ⟨hi1, hSl, hG, hN⟩
        dsimp only at hi1 hSl hG hN ⊢
        refine W_seq ?_
        refine W_seq ?_
        refine W_reg rfl ?_
        refine O_qs (q_move rfl) ?_
        refine O_qs (q_move rfl) ?_
        refine O_qs (q_len Try.runUnderlying65 rfl) ?_
        refine O_qs (q_lss rfl rfl) ?_
        refine O_nil ?_
        refine W_cond rfl ?_ ?_
        · intro hc2
          have hlt : i < m := by simpa using hc2
          obtain ⟨g, cap3, e⟩ := hN.ptr (by omega)
          simp only [Value.slice.injEq] at e
          obtain ⟨rfl, -, rfl⟩ := e
          have hkx : S[i]? = some S[i] := List.getElem?_eq_getElem (by omega)
          have hky : S[i - 1]? = some S[i - 1] := List.getElem?_eq_getElem (by omega)
          generalize S[i] = x at hkx
          generalize S[i - 1] = y at hky
          have hkm : i - 1 < m := by omega
          refine W_skip ?_
          refine W_seq ?_
          refine W_block ?_
          refine W_seq ?_
          refine W_draw [[], [], [0, 1], [0, 1, 2], [0, 1, 2, 3], [], [], [6], [5, 6, 7], [5, 6, 7, 8], [5, 6, 7, 8, 9], [0, 1, 2, 3, 4, 5, 6, 7, 8, 9, 10]] rfl rfl rfl ?_
          refine V.qs 0 rfl rfl (q_move rfl) ?_
          refine V.qs 1 rfl rfl (q_move rfl) ?_
          refine V.qs 2 rfl rfl (q_ian Try.runUnderlying65 Try.sizeOf74 rfl rfl hlt) ?_
          refine V.qs 3 rfl rfl (q_fa fa_74_1 rfl) ?_
          refine V.qs 4 rfl rfl (q_load Try.isAgg41 rfl (hN.rd (by repeat (first | exact List.Mem.head _ | apply List.Mem.tail)) hkx (j := 1) rfl (by show 0 + i * 4 + 1 = _; simp [layN]))) ?_
          refine V.qs 5 rfl rfl (q_move rfl) ?_
          refine V.qs 6 rfl rfl (q_move rfl) ?_
          refine V.qs 7 rfl rfl (q_sub (c := ((i - 1 : Nat) : Int)) (w64' (by omega) (by omega)) rfl rfl) ?_
          refine V.qs 8 rfl rfl (q_ian Try.runUnderlying65 Try.sizeOf74 rfl rfl hkm) ?_
          refine V.qs 9 rfl rfl (q_fa fa_74_1 rfl) ?_
          refine V.qs 10 rfl rfl (q_load Try.isAgg41 rfl (hN.rd (by repeat (first | exact List.Mem.head _ | apply List.Mem.tail)) hky (j := 1) rfl (by show 0 + (i - 1) * 4 + 1 = _; simp [layN]))) ?_
          refine V.qs 11 rfl rfl (q_eql rfl rfl) ?_
          refine V.fin rfl ?_
          refine W_cond rfl ?_ ?_
          · intro hq
            refine W_reg rfl ?_
            refine O_qs (q_move rfl) ?_
            refine O_qs (q_move rfl) ?_
            refine O_qs (q_sub (c := ((i - 1 : Nat) : Int)) (w64' (by omega) (by omega)) rfl rfl) ?_
            refine O_qs (q_ian Try.runUnderlying65 Try.sizeOf74 rfl rfl hkm) ?_
            refine O_qs (q_fa fa_74_3 rfl) ?_
            refine O_en (e_storeRow (vs := [.bool true]) (a' := { y with mark := true }) (j := 3) Try.sizeOf4 hN (fun _ => (by repeat (first | exact Upd.here | apply Upd.there))) hky rfl (by show 0 + (i - 1) * 4 + 3 = _; simp [layN]) rfl rfl rfl (Nat.le_of_ble_eq_true rfl)) ?_
            rintro _ _ ⟨N5, hN5, rfl, rfl⟩
            refine O_nil ?_
            refine W_reg rfl ?_
            refine O_qs (q_move rfl) ?_
            refine O_qs (q_add (c := ((i + 1 : Nat) : Int)) (w64' (by omega) (by omega)) rfl rfl) ?_
            refine O_qs (q_assign rfl) ?_
            refine O_nil ?_
            refine ⟨(i + 1, N5, S.set (i - 1) { y with mark := true }), _, ?_, ?_, (by repeat (first | exact Sub.nil | refine Sub.cons rfl ?_)), (by repeat (first | exact Pick.nil | exact Take.here | apply Pick.cons | apply Take.there))⟩
            · exact ⟨Nat.le_add_left _ _, by simpa using hSl, hG.mark hky, hN5⟩
            · dsimp only; omega
          · intro hq
            refine W_skip ?_
            refine W_reg rfl ?_
            refine O_qs (q_move rfl) ?_
            refine O_qs (q_add (c := ((i + 1 : Nat) : Int)) (w64' (by omega) (by omega)) rfl rfl) ?_
            refine O_qs (q_assign rfl) ?_
            refine O_nil ?_
            refine ⟨(i + 1, N, S), _, ?_, ?_, (by repeat (first | exact Sub.nil | refine Sub.cons rfl ?_)), (by repeat (first | exact Pick.nil | exact Take.here | apply Pick.cons | apply Take.there))⟩
            · exact ⟨Nat.le_add_left _ _, hSl, hG, hN⟩
            · dsimp only; omega
        · intro hc2
          refine W_exit ?_
          refine W_seq ?_
          refine W_reg rfl ?_
          refine O_qs (q_move rfl) ?_
          refine O_qs (q_assign rfl) ?_
          refine O_nil ?_
          refine W_ret ?_
          refine res1 (c0 := [N]) rfl rfl (by repeat (first | exact Pick.nil | exact Take.here | apply Pick.cons | apply Take.there)) rfl ?_
          subst hSl
          exact ⟨N, S, hN, hG, rfl⟩
end Go.Proofs.Ytaphhhnnplljdaa
