/-
  Walks: a skip list laid into the program's memory; the law of levels.
-/
import Derived.Test.YtaphhhnnplljdaaTo4
set_option linter.unusedSimpArgs false
set_option linter.unusedVariables false
namespace Go.Proofs.Ytaphhhnnplljdaa
open Go Go.SL

theorem placesGo_len : ∀ (l : List (Plc × Int)) (out : List Plc), (placesGo l out).length ≤ out.length + l.length := by
  intro l
  induction l with
  | nil => intro out; simp [placesGo]
  | cons x r ih =>
    intro out
    obtain ⟨q, w⟩ := x
    rw [placesGo]
    split
    · have := ih out; simp only [List.length_cons]; omega
    · have := ih (bub pless (out ++ [q]) out.length)
      rw [bub_length] at this
      simp only [List.length_append, List.length_cons, List.length_nil] at this ⊢
      omega

theorem law18_laid (B : World) (N : Atom) (u0 : Value) (S : List NdT) (h : Nat) (hN : Row layT 98 N u0 S) (hG : GoodT h S) (hr : S.Pairwise fun a b => a.key < b.key) (hm0 : ∀ z, z ∈ S → z.marks = 0) (hh : 1 ≤ h ∧ h ≤ 16) :
    Ctr Try.prog 41 [u0, .int .i64 (h : Int)] B [N] (fun u c => ∃ wb mb A k l2, PlainIs A wb l2 k ∧ k.loads = 0 ∧ MemOk (mem l2) S h ∧ mem l2 epochP = 5 ∧ u = .tuple #[ptr wb, ptr mb] ∧ c = [N, A]) := by
  have hS30 := hG.le
  obtain ⟨sa, cap, rfl⟩ := hN.len
  refine Ctr.intro (n := 50) Try.func41 rfl Try.ntmps41 (Nat.le_of_ble_eq_true rfl) ?_
  refine W_seq ?_
  refine W_reg rfl ?_
  refine O_qs (q_assign rfl) ?_
  refine O_qs (q_assign rfl) ?_
  refine O_nil ?_
  refine W_seq ?_
  refine W_reg rfl ?_
  refine O_qs (q_build rfl (bld_40 (cs := [_]) rfl)) ?_
  refine O_es (e_box (cs := #[_]) rfl rfl) ?_
  rintro _ _ ⟨b12, rfl, rfl⟩
  refine O_qs (q_assign rfl) ?_
  refine O_nil ?_
  refine W_seq ?_
  refine W_seq ?_
  refine W_conv (ctx' := [oraw b12 (.slice none 0 0), [], N]) rfl ?_
  refine W_reg rfl ?_
  refine O_qs (q_assign rfl) ?_
  refine O_nil ?_
  refine W_block ?_
  refine W_loopD (fun (d : Nat × Atom × Value × List (Plc × Int)) => [(7, .int .i64 (d.1 : Int)), (6, ptr b12), (1, .int .i64 (h : Int)), (0, .slice sa S.length cap)]) (fun (_, R, v, _) => [oraw b12 v, R, N]) (fun d => h - d.1) (fun (i, R, v, l) => i ≤ h ∧ Row layO 165 R v l ∧ l.length ≤ 92 * i ∧ Keys l ∧ Wm l ∧ (∀ j : Nat, j < i → Chain (mem l) j (rootP j) false (lvl j S)) ∧ (1 ≤ i → mem l epochP = 5)) (0, [], .slice none 0 0, []) ?_ (by repeat (first | exact Sub.nil | refine Sub.cons rfl ?_)) (by repeat (first | exact Pick.nil | exact Take.here | apply Pick.cons | apply Take.there)) ?_
  · exact ⟨Nat.zero_le _, Row.nil .., Nat.zero_le _, List.nodup_nil, Wm.nil, (fun j hj => by omega), (fun hj => by omega)⟩
  · rintro ⟨i, R, v, l⟩ ⟨hi, hR, hl, hk, hw, hc0, he0⟩
    dsimp only at hi hR hl hk hw hc0 he0 ⊢
    refine W_seq ?_
    refine W_seq ?_
    refine W_reg rfl ?_
    refine O_qs (q_move rfl) ?_
    refine O_qs (q_move rfl) ?_
    refine O_qs (q_lss rfl rfl) ?_
    refine O_nil ?_
    refine W_cond rfl ?_ ?_
    · intro hc
      have hlt : i < h := by simpa using hc
      refine W_skip ?_
      refine W_seq ?_
      refine W_block ?_
      refine W_reg rfl ?_
      refine O_qs (q_move rfl) ?_
      refine O_qs (q_move rfl) ?_
      refine O_qs (q_move rfl) ?_
      refine O_qs (q_move rfl) ?_
      refine O_qs (q_move rfl) ?_
      refine O_es (e_cf Try.call45 rfl (fun wd hwd => (ref18_Level _ N (.slice sa S.length cap) S i hN (by omega) (by omega) hm0)) (by repeat (first | exact Pick.nil | exact Take.here | apply Pick.cons | apply Take.there))) ?_
      rintro _ _ ⟨_, ⟨M, hM, rfl⟩, rfl⟩
      have hlv : (lvl (i : Int) S).length ≤ 30 := Nat.le_trans lvl_len hS30
      refine O_es (e_cf Try.call20 rfl (fun wd hwd => (ref15_Lay _ b12 R v l (i : Int) (i : Int) 5 M _ (lvl (i : Int) S) hM hR (by omega) (by omega) (by omega) (by decide))) (by repeat (first | exact Pick.nil | exact Take.here | apply Pick.cons | apply Take.there))) ?_
      rintro _ _ ⟨_, ⟨R1, v1, hR1, rfl, rfl⟩, rfl⟩
      refine O_nil ?_
      refine W_reg rfl ?_
      refine O_qs (q_move rfl) ?_
      refine O_qs (q_add (c := ((i + 1 : Nat) : Int)) (w64' (by omega) (by omega)) rfl rfl) ?_
      refine O_qs (q_assign rfl) ?_
      refine O_nil ?_
      have hll := lay_len (root := (i : Int)) (lv := (i : Int)) (e := 5) (L := lvl (i : Int) S) (l := l)
      refine ⟨(i + 1, R1, v1, lay i i 5 (lvl i S) l), _, ?_, ?_, (by repeat (first | exact Sub.nil | refine Sub.cons rfl ?_)), (by repeat (first | exact Pick.nil | exact Take.here | apply Pick.cons | apply Take.there))⟩
      · refine ⟨hlt, hR1, (by dsimp only; omega), lay_keys hk, lay_wm (by decide) (lvl_wd hG _) hw, fun j hj => ?_, fun _ => lay_epoch⟩
        rcases Nat.lt_or_ge j i with h1 | h1
        · exact lay_keeps hG (by omega) (hc0 j h1)
        · obtain rfl : j = i := by omega
          exact lay_chain (by decide) (by omega) (lvl_slots hG _)
      · dsimp only; omega
    · intro hc
      have hil : i = h := by simp at hc; omega
      subst hil
      have hM : MemOk (mem l) S i := ⟨hc0, hr, fun z hz => (hG.sl z hz).1⟩
      have he : mem l epochP = 5 := he0 hh.1
      refine W_exit ?_
      refine W_seq ?_
      refine W_reg rfl ?_
      refine O_es (e_cf Try.call10 rfl (fun wd hwd => (world_New _)) (by repeat (first | exact Pick.nil | exact Take.here | apply Pick.cons | apply Take.there))) ?_
      rintro _ _ ⟨_, ⟨wb, A, hA, rfl, rfl⟩, rfl⟩
      refine O_qs (q_assign rfl) ?_
      refine O_nil ?_
      refine W_seq ?_
      refine W_reg rfl ?_
      refine O_qs (q_move rfl) ?_
      refine O_es (e_cf Try.call76 rfl (fun wd hwd => (ref04_Places _ b12 R v l hR (by omega))) (by repeat (first | exact Pick.nil | exact Take.here | apply Pick.cons | apply Take.there))) ?_
      rintro _ _ ⟨_, ⟨R2, hR2, rfl⟩, rfl⟩
      refine O_qs (q_assign rfl) ?_
      refine O_nil ?_
      refine W_seq ?_
      refine W_seq ?_
      obtain ⟨a2, c2, rfl⟩ := hR2.len
      generalize hP : placesGo l [] = P at hR2 ⊢
      have hPl : P.length ≤ l.length := by
        rw [← hP]
        simpa using placesGo_len l []
      refine W_reg rfl ?_
      refine O_qs (q_assign rfl) ?_
      refine O_nil ?_
      refine W_block ?_
      refine W_loopD (fun (d : Nat × Atom × Count × List (Plc × Int)) => [(10, .int .i64 (d.1 : Int)), (9, .slice a2 P.length c2), (8, ptr wb), (6, ptr b12)]) (fun (_, A, _, _) => [A, R2, oraw b12 v, R, N]) (fun d => P.length - d.1) (fun (i, A, k, l2) => i ≤ P.length ∧ PlainIs A wb l2 k ∧ k.loads = 0 ∧ layInto (mem l) P [] = layInto (mem l) (P.drop i) l2) (0, A, Count.zero, []) ?_ (by repeat (first | exact Sub.nil | refine Sub.cons rfl ?_)) (by repeat (first | exact Pick.nil | exact Take.here | apply Pick.cons | apply Take.there)) ?_
      · exact ⟨Nat.zero_le _, hA, rfl, rfl⟩
      · rintro ⟨n, A, k, l2⟩ ⟨hi, hA, hkl, htot⟩
        dsimp only at hi hA hkl htot ⊢
        refine W_seq ?_
        refine W_seq ?_
        refine W_reg rfl ?_
        refine O_qs (q_move rfl) ?_
        refine O_qs (q_move rfl) ?_
        refine O_qs (q_len Try.runUnderlying135 rfl) ?_
        refine O_qs (q_lss rfl rfl) ?_
        refine O_nil ?_
        refine W_cond rfl ?_ ?_
        · intro hc
          have hlt : n < P.length := by simpa using hc
          obtain ⟨g, cap3, e⟩ := hR2.ptr (by omega)
          simp only [Value.slice.injEq, true_and] at e
          obtain ⟨rfl, rfl⟩ := e
          have hq : P[n]? = some P[n] := List.getElem?_eq_getElem hlt
          have hdr : P.drop n = P[n] :: P.drop (n + 1) := List.drop_eq_getElem_cons hlt
          rw [hdr] at htot
          generalize P[n] = q at hq htot
          refine W_skip ?_
          refine W_seq ?_
          refine W_block ?_
          refine W_draw [[], [], [], [1, 2], [1, 2, 3], [1, 2, 3, 4], [], [], [], [7, 8], [7, 8, 9], [6, 7, 8, 9, 10], [6, 7, 8, 9, 10, 11], [0, 1, 2, 3, 4, 5, 6, 7, 8, 9, 10, 11, 12]] rfl rfl rfl ?_
          refine V.qs 0 rfl rfl (q_move rfl) ?_
          refine V.qs 1 rfl rfl (q_move rfl) ?_
          refine V.qs 2 rfl rfl (q_move rfl) ?_
          refine V.qs 3 rfl rfl (q_ian Try.runUnderlying135 Try.sizeOf79 rfl rfl hlt) ?_
          refine V.qs 4 rfl rfl (q_loadN (vs := Plc.l q) Try.isAgg79 Try.sizeOf79 rfl (hR2.rds (by repeat (first | exact List.Mem.head _ | apply List.Mem.tail)) hq (by show 0 + n * 3 = _; simp [layP]))) ?_
          refine V.qs 5 rfl rfl (q_build rfl (bld_91 (cs := [_, _, _, _]) rfl)) ?_
          refine V.qs 6 rfl rfl (q_move rfl) ?_
          refine V.qs 7 rfl rfl (q_move rfl) ?_
          refine V.qs 8 rfl rfl (q_move rfl) ?_
          refine V.qs 9 rfl rfl (q_ian Try.runUnderlying135 Try.sizeOf79 rfl rfl hlt) ?_
          refine V.qs 10 rfl rfl (q_loadN (vs := Plc.l q) Try.isAgg79 Try.sizeOf79 rfl (hR2.rds (by repeat (first | exact List.Mem.head _ | apply List.Mem.tail)) hq (by show 0 + n * 3 = _; simp [layP]))) ?_
          refine V.qs 11 rfl rfl (q_cf Try.call63 rfl (fun wd hwd => (ref04_Get _ b12 R v l q hR (by omega))) (by repeat (first | exact Pick.nil | exact Take.here | apply Pick.cons | apply Take.there))) ?_
          refine V.qs 12 rfl rfl (q_build rfl (bld_45 (cs := [_, _, _]) rfl)) ?_
          refine V.e1s 13 [] rfl rfl rfl (e_cf Try.call37 rfl (fun wd hwd => (world_Store _ A wb k l2 ⟨q, 0⟩ ⟨mem l q, 0, false⟩ (hw q) hA)) (by repeat (first | exact Pick.nil | exact Take.here | apply Pick.cons | apply Take.there))) ?_
          rintro _ _ ⟨_, ⟨A', hA', rfl, rfl⟩, rfl⟩
          refine ⟨st_nil, ?_⟩
          refine V.fin rfl ?_
          refine W_reg rfl ?_
          refine O_qs (q_move rfl) ?_
          refine O_qs (q_add (c := ((n + 1 : Nat) : Int)) (w64' (by omega) (by omega)) rfl rfl) ?_
          refine O_qs (q_assign rfl) ?_
          refine O_nil ?_
          refine ⟨(n + 1, A', { k with stores := inc k.stores }, putw l2 q (mem l q)), _, ?_, ?_, (by repeat (first | exact Sub.nil | refine Sub.cons rfl ?_)), (by repeat (first | exact Pick.nil | exact Take.here | apply Pick.cons | apply Take.there))⟩
          · exact ⟨hlt, hA', hkl, htot⟩
          · dsimp only; omega
        · intro hc
          have hil : n = P.length := by simp at hc; omega
          subst hil
          rw [List.drop_length] at htot
          have hmm : mem l2 = mem l := by
            funext p
            have h1 := mem_layInto (mem l) P [] List.nodup_nil p
            rw [htot] at h1
            rw [show mem l2 p = _ from h1]
            have h2 := mem_places l [] hk p
            rw [hP] at h2
            split
            · rfl
            · rename_i hn
              have : ¬ (p ∈ ([] : List Plc) ∨ mem l p ≠ 0) := fun h => hn (h2.2 h)
              simp at this
              rw [this]
              rfl
          refine W_exit ?_
          refine W_seq ?_
          refine W_reg rfl ?_
          refine O_qs (q_move rfl) ?_
          refine O_qs (q_move rfl) ?_
          refine O_qs (q_assign rfl) ?_
          refine O_qs (q_assign rfl) ?_
          refine O_nil ?_
          refine W_ret ?_
          refine res2 (c0 := [N, A]) rfl rfl rfl (by repeat (first | exact Pick.nil | exact Take.here | apply Pick.cons | apply Take.there)) rfl ?_
          exact ⟨wb, b12, A, k, l2, hA, hkl, by rw [hmm]; exact hM, by rw [hmm]; exact he, rfl, rfl⟩
end Go.Proofs.Ytaphhhnnplljdaa
