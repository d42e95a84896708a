/-
  The law of a lane at any level: the walk.
-/
import Derived.Test.YtbfplncdmbjjhaaGreatLe
set_option linter.unusedSimpArgs false
set_option linter.unusedVariables false
namespace Go.Proofs.YtbfplncdmbjjhaaGreat
open Go Go.SL

theorem law15_SeekLevels (B : World) (sa : Option Addr) (cap : Nat) (L : List Nd) (level key : Int) (sc : Option Addr) (cap2 : Nat) (acts : List Act) (hb : BaseRow layN B sa L) (hL : L.length ≤ 9223372036854775807) (hw : ∀ x, x ∈ L → NdW x)
    (hb2 : BaseRow layA B sc acts) (hL2 : acts.length ≤ 9223372036854775807) (hw2 : ∀ x, x ∈ acts → Wd x.w) :
    Ctr Tryz.prog 3 [.slice sa L.length cap, .int .i64 level, .int .u64 key, .slice sc acts.length cap2] B [] (fun u c => u = .bool true ∧ c = []) := by
  obtain ⟨lv, hq, hlv⟩ : ∃ lv : Nat, (IntKind.u64.wrap level).tmod 16 = (lv : Int) ∧ lv < 16 := by
    have ub : 0 ≤ IntKind.u64.wrap level := (u64_wd level).1
    obtain ⟨n, hn⟩ := Int.eq_ofNat_of_zero_le ub
    rw [hn]
    refine ⟨n % 16, ?_, by omega⟩
    show Int.tmod (n : Int) 16 = _
    rw [Int.tmod_eq_emod_of_nonneg (by omega)]
    simp
  refine Ctr.intro (n := 150) Tryz.func3 rfl Tryz.ntmps3 (Nat.le_of_ble_eq_true rfl) ?_
  refine W_seq ?_
  refine W_reg rfl ?_
  refine O_qs (q_assign rfl) ?_
  refine O_nil ?_
  refine W_seq ?_
  refine W_seq ?_
  refine W_reg rfl ?_
  refine O_qs (q_cf Tryz.call6 rfl (fun wd hwd => (law15_awake _)) (by repeat (first | exact Pick.nil | exact Take.here | apply Pick.cons | apply Take.there))) ?_
  refine O_qs (q_not rfl) ?_
  refine O_nil ?_
  refine W_false rfl ?_
  refine W_skip ?_
  refine W_seq ?_
  refine W_reg rfl ?_
  refine O_qs (q_build rfl (bld_29 (cs := [_]) rfl)) ?_
  refine O_es (e_box (cs := #[_]) rfl rfl) ?_
  rintro _ _ ⟨b21, rfl, rfl⟩
  refine O_qs (q_assign rfl) ?_
  refine O_nil ?_
  refine W_seq ?_
  refine W_conv (ctx' := [oraw b21 (.slice none 0 0), []]) rfl ?_
  refine W_reg rfl ?_
  refine O_qs (q_move rfl) ?_
  refine O_qs (q_conv (c := IntKind.u64.wrap level) Tryz.runUnderlying3 Tryz.runUnderlying30 rfl rfl) ?_
  refine O_qs (q_rem (by decide) hq rfl rfl) ?_
  refine O_qs (q_conv (c := (lv : Int)) Tryz.runUnderlying30 Tryz.runUnderlying3 (w64 (by omega)) rfl) ?_
  refine O_qs (q_assign rfl) ?_
  refine O_nil ?_
  refine W_seq ?_
  refine W_reg rfl ?_
  refine O_qs (q_move rfl) ?_
  refine O_qs (q_move rfl) ?_
  refine O_qs (q_move rfl) ?_
  refine O_qs (q_move rfl) ?_
  refine O_es (e_cf Tryz.call8 rfl (fun wd hwd => (law15_nodes _ sa L.length cap L rfl (hb.still hwd) hL hw)) (by repeat (first | exact Pick.nil | exact Take.here | apply Pick.cons | apply Take.there))) ?_
  rintro _ _ ⟨_, ⟨N, S, hN, hG, rfl⟩, rfl⟩
  have hS40 := hG.le
  obtain ⟨na, nc, rfl⟩ := hN.len
  refine O_es (e_cf Tryz.call7 rfl (fun wd hwd => (ref15_Lay _ b21 [] (.slice none 0 0) [] lv lv 5 N _ S hN (Row.nil ..) (by decide) (by omega) (by omega) (by decide))) (by repeat (first | exact Pick.nil | exact Take.here | apply Pick.cons | apply Take.there))) ?_
  rintro _ _ ⟨_, ⟨R1, v1, hR1, rfl, rfl⟩, rfl⟩
  refine O_nil ?_
  refine W_seq ?_
  refine W_reg rfl ?_
  refine O_qs (q_move rfl) ?_
  have hll := lay_len (root := (lv : Int)) (lv := (lv : Int)) (e := 5) (L := S) (l := [])
  simp only [List.length_nil] at hll
  have hk2 : Keys (lay lv lv 5 S []) := lay_keys List.nodup_nil
  refine O_es (e_cf Tryz.call9 rfl (fun wd hwd => (law15_laid _ b21 R1 v1 _ hR1 (by omega) hk2 (lay_wm (by decide) hG.wd Wm.nil))) (by repeat (first | exact Pick.nil | exact Take.here | apply Pick.cons | apply Take.there))) ?_
  rintro _ _ ⟨_, ⟨wb, A, k, l, hA, hm0, rfl, rfl⟩, rfl⟩
  refine O_qs (q_assign rfl) ?_
  refine O_nil ?_
  refine W_seq ?_
  refine W_reg rfl ?_
  have hm : mem l = mem (lay lv lv 5 S []) := funext hm0
  generalize lay lv lv 5 S [] = l2 at hR1 hll hk2 hm
  refine O_qs (q_cf Tryz.call11 rfl (fun wd hwd => (law15_conf _)) (by repeat (first | exact Pick.nil | exact Take.here | apply Pick.cons | apply Take.there))) ?_
  refine O_es (e_cf Tryz.call10 rfl (fun wd hwd => (core_New_ok _ cf15 cf15_ok)) (by repeat (first | exact Pick.nil | exact Take.here | apply Pick.cons | apply Take.there))) ?_
  rintro _ _ ⟨_, ⟨cb, qb, Q, qv, ring, qk, qh, hqs, rfl, rfl⟩, rfl⟩
  refine O_qs (q_assign rfl) ?_
  refine O_nil ?_
  refine W_seq ?_
  refine W_reg rfl ?_
  refine O_qs (q_cf Tryz.call11 rfl (fun wd hwd => (law15_conf _)) (by repeat (first | exact Pick.nil | exact Take.here | apply Pick.cons | apply Take.there))) ?_
  refine O_qs (q_build rfl (bld_45 (cs := [_, _, _, _, _, _, _, _, _, _]) rfl)) ?_
  refine O_es (e_box (cs := #[_, _, _, _, _, _, _, _, _, _]) rfl rfl) ?_
  rintro _ _ ⟨b38, rfl, rfl⟩
  refine O_qs (q_assign rfl) ?_
  refine O_nil ?_
  refine W_seq ?_
  refine W_reg rfl ?_
  refine O_qs (q_move rfl) ?_
  refine O_qs (q_move rfl) ?_
  refine O_qs (q_mkI mki_33 rfl) ?_
  refine O_es (e_cf Tryz.call12 rfl (fun wd hwd => (core_Check _ cb qb cf15 0 ⟨0, 0⟩ 0 A wb k l hA)) (by repeat (first | exact Pick.nil | exact Take.here | apply Pick.cons | apply Take.there))) ?_
  rintro _ _ ⟨_, ⟨A1, hA1, rfl, rfl⟩, rfl⟩
  refine O_nil ?_
  refine W_seq ?_
  refine W_reg rfl ?_
  refine O_qs (q_move rfl) ?_
  refine O_qs (q_move rfl) ?_
  refine O_es (e_cf Tryz.call13 rfl (fun wd hwd => (ref13_Check _ b38 b21 cf15 0 0 0 0 (.slice none 0 0) R1 v1 l2 hR1 (by omega) (by rw [← hm]; exact hA.wds.mem _))) (by repeat (first | exact Pick.nil | exact Take.here | apply Pick.cons | apply Take.there))) ?_
  rintro _ _ ⟨_, ⟨rfl, rfl⟩, rfl⟩
  refine O_nil ?_
  refine W_seq ?_
  rw [← hm]
  generalize epw (mem l epochP) = e
  refine W_reg rfl ?_
  refine O_qs (q_move rfl) ?_
  refine O_qs (q_move rfl) ?_
  refine O_qs (q_cf Tryz.call15 rfl (fun wd hwd => (place_Root _ (lv : Int))) (by repeat (first | exact Pick.nil | exact Take.here | apply Pick.cons | apply Take.there))) ?_
  refine O_qs (q_build rfl (bld_54 (cs := [_, _, _, _]) rfl)) ?_
  refine O_qs (q_move rfl) ?_
  refine O_qs (q_move rfl) ?_
  refine O_es (e_cf Tryz.call14 rfl (fun wd hwd => (seek_New _ cb ⟨rootP lv, 0⟩ lv key false)) (by repeat (first | exact Pick.nil | exact Take.here | apply Pick.cons | apply Take.there))) ?_
  rintro _ _ ⟨_, ⟨lb, rfl, rfl⟩, rfl⟩
  refine O_qs (q_assign rfl) ?_
  refine O_nil ?_
  refine W_seq ?_
  refine W_reg rfl ?_
  refine O_qs (q_move rfl) ?_
  refine O_qs (q_cf Tryz.call15 rfl (fun wd hwd => (place_Root _ (lv : Int))) (by repeat (first | exact Pick.nil | exact Take.here | apply Pick.cons | apply Take.there))) ?_
  refine O_qs (q_move rfl) ?_
  refine O_qs (q_move rfl) ?_
  refine O_qs (q_build rfl (bld_57 (cs := [_, _, _, _, _, _, _, _, _, _, _, _, _]) rfl)) ?_
  refine O_es (e_box (cs := #[_, _, _, _, _, _, _, _, _, _, _, _, _]) rfl rfl) ?_
  rintro _ _ ⟨b58, rfl, rfl⟩
  refine O_qs (q_assign rfl) ?_
  refine O_nil ?_
  refine W_seq ?_
  refine W_seq ?_
  refine W_reg rfl ?_
  refine O_qs (q_assign rfl) ?_
  refine O_nil ?_
  refine W_block ?_
  refine W_loopD (fun (d : (Nat × Lane × Int) × (Atom × Count × List (Plc × Int)) × (Atom × Value × List (Plc × Int))) => [(16, .int .i64 (d.1.1 : Int)), (15, ptr b58), (14, ptr lb), (13, ptr b38), (12, ptr cb), (11, ptr wb), (9, ptr b21), (3, .slice sc acts.length cap2)]) (fun ((_, x, r), (A, _, _), (R, v, _)) => [laneA lb cb x, coreA cb qb cf15 e ⟨0, 0⟩ r, A, rlaneA b58 x, uraw b38 cf15 e (.slice none 0 0) 0 0 r, oraw b21 v, R]) (fun d => 200 - d.1.1) (fun ((i, x, r), (A, k, l), (R, v, l2)) => i ≤ 200 ∧ LaneM x ∧ PlainIs A wb l k ∧ Row layO 147 R v l2 ∧ Keys l2 ∧ l2.length ≤ 1000 + 2 * i ∧ mem l = mem l2) ((0, newLane ⟨rootP lv, 0⟩ lv key false, 0), (A1, { k with loads := inc k.loads }, l), (R1, v1, l2)) ?_ (by repeat (first | exact Sub.nil | refine Sub.cons rfl ?_)) (by repeat (first | exact Pick.nil | exact Take.here | apply Pick.cons | apply Take.there)) ?_
  · exact ⟨Nat.zero_le _, ⟨⟨⟨by show (0 : Int) ≤ (lv : Int); omega, by show (lv : Int) ≤ 1000000; omega⟩, (by decide : Wd 0), (by decide : Wd 0)⟩, ⟨Int.le_refl 0, (by decide : (0 : Int) ≤ 100)⟩, fun _ => rfl⟩, hA1, hR1, hk2, by first | omega | (dsimp only; omega), hm⟩
  · clear hA hA1 hR1 hk2 hll hm hm0
    rintro ⟨⟨i, x, r⟩, ⟨A, k, l⟩, ⟨R, v, l2⟩⟩ ⟨hi, hx, hA, hR, hk2, hl2, hm⟩
    dsimp only at hi hx hA hR hk2 hl2 hm ⊢
    refine W_seq ?_
    refine W_seq ?_
    refine W_reg rfl ?_
    refine O_qs (q_move rfl) ?_
    refine O_qs (q_lss rfl rfl) ?_
    refine O_nil ?_
    refine W_cond rfl ?_ ?_
    · intro hc
      have hlt : i < 200 := by simp at hc; omega
      refine W_skip ?_
      refine W_seq ?_
      refine W_block ?_
      refine W_seq ?_
      refine W_seq ?_
      refine W_reg rfl ?_
      refine O_qs (q_move rfl) ?_
      refine O_qs (q_move rfl) ?_
      refine O_qs (q_len Tryz.runUnderlying24 rfl) ?_
      refine O_qs (q_lss rfl rfl) ?_
      refine O_nil ?_
      refine W_cut (fun (d : (Atom × Count × List (Plc × Int)) × (Atom × Value × List (Plc × Int))) => [(16, .int .i64 (i : Int)), (15, ptr b58), (14, ptr lb), (13, ptr b38), (12, ptr cb), (11, ptr wb), (9, ptr b21), (3, .slice sc acts.length cap2)]) (fun ((A, _, _), (R, v, _)) => [laneA lb cb x, coreA cb qb cf15 e ⟨0, 0⟩ r, A, rlaneA b58 x, uraw b38 cf15 e (.slice none 0 0) 0 0 r, oraw b21 v, R]) (fun ((A, k, l), (R, v, l2)) => PlainIs A wb l k ∧ Row layO 147 R v l2 ∧ Keys l2 ∧ l2.length ≤ 1001 + 2 * i ∧ mem l = mem l2) ?_ ?_
      · refine W_cond rfl ?_ ?_
        · intro hc2
          have hla : i < acts.length := by simpa using hc2
          obtain ⟨ab, ao, rfl⟩ := hb2.ptr hla
          have hV : acts[i]? = some acts[i] := List.getElem?_eq_getElem hla
          have hywd : Wd acts[i].w := hw2 _ (List.getElem_mem hla)
          generalize acts[i] = y at hV hywd
          refine W_reg rfl ?_
          refine O_qs (q_move rfl) ?_
          refine O_qs (q_move rfl) ?_
          refine O_qs (q_move rfl) ?_
          refine O_qs (q_move rfl) ?_
          refine O_qs (q_ian Tryz.runUnderlying24 Tryz.sizeOf60 rfl rfl hla) ?_
          refine O_qs (q_loadN (vs := Act.l y) Tryz.isAgg60 Tryz.sizeOf60 rfl (hb2.rds hV rfl)) ?_
          refine O_es (e_cf Tryz.call16 rfl (fun wd hwd => (law15_disturb _ A wb k l hA b21 R v l2 hR (by omega) y hywd)) (by repeat (first | exact Pick.nil | exact Take.here | apply Pick.cons | apply Take.there))) ?_
          rintro _ _ ⟨_, ⟨A', R', v', hA', hR', rfl, rfl⟩, rfl⟩
          refine O_nil ?_
          refine ⟨((A', stK k (y.wr (mem l2)), wrl l (y.wr (mem l2))), (R', v', mwr l2 (y.wr (mem l2)))), _, ?_, (by repeat (first | exact Sub.nil | refine Sub.cons rfl ?_)), (by repeat (first | exact Pick.nil | exact Take.here | apply Pick.cons | apply Take.there))⟩
          have h1 := mwr_len l2 (y.wr (mem l2))
          exact ⟨hA', hR', mwr_keys hk2 _, by first | omega | (dsimp only; omega), by rw [mem_wrl hA.keys, mem_mwr, hm]⟩
        · intro hc2
          refine W_skip ?_
          refine ⟨((A, k, l), (R, v, l2)), _, ?_, (by repeat (first | exact Sub.nil | refine Sub.cons rfl ?_)), (by repeat (first | exact Pick.nil | exact Take.here | apply Pick.cons | apply Take.there))⟩
          exact ⟨hA, hR, hk2, by first | omega | (dsimp only; omega), hm⟩
      · clear hA hR hk2 hl2 hm
        rintro ⟨⟨A, k, l⟩, ⟨R, v, l2⟩⟩ ⟨hA, hR, hk2, hl2, hm⟩
        dsimp only at hA hR hk2 hl2 hm ⊢
        refine W_seq ?_
        refine W_reg rfl ?_
        refine O_qs (q_move rfl) ?_
        refine O_qs (q_move rfl) ?_
        refine O_qs (q_mkI mki_33 rfl) ?_
        refine O_es (e_cf Tryz.call17 rfl (fun wd hwd => (lane_Step _ lb cb qb cf15 e ⟨0, 0⟩ r x hx.ok A wb k l hA)) (by repeat (first | exact Pick.nil | exact Take.here | apply Pick.cons | apply Take.there))) ?_
        rintro _ _ ⟨_, ⟨A', hA', rfl, rfl⟩, rfl⟩
        refine O_qs (q_assign rfl) ?_
        refine O_nil ?_
        refine W_seq ?_
        refine W_seq ?_
        refine W_reg rfl ?_
        refine O_qs (q_move rfl) ?_
        refine O_qs (q_move rfl) ?_
        refine O_qs (q_move rfl) ?_
        refine O_qs (q_move rfl) ?_
        refine O_es (e_cf Tryz.call18 rfl (fun wd hwd => (ref15_Lane_Step _ b58 b38 b21 x cf15 e 0 0 r (.slice none 0 0) R v l2 hx hR (by omega))) (by repeat (first | exact Pick.nil | exact Take.here | apply Pick.cons | apply Take.there))) ?_
        rintro _ _ ⟨_, ⟨R', v', hR', rfl, rfl⟩, rfl⟩
        refine O_qs (q_neq rfl rfl) ?_
        refine O_nil ?_
        rw [← hm] at hR' ⊢
        have hst := Lane.step_st x e r (mem l)
        have hxm : (x.step e r (mem l)).st = 0 → LaneM (x.step e r (mem l)).x := fun h => hx.step hA.wds.mem h
        have hk1 := hA.keys
        generalize x.step e r (mem l) = t at hA' hR' hst hxm ⊢
        have hm' : mem (wrl l t.wr) = mem (mwr l2 t.wr) := by rw [mem_wrl hk1, mem_mwr, hm]
        have hk2' := mwr_keys hk2 t.wr
        have hl2' := mwr_len l2 t.wr
        refine W_fa rfl ((by simp)) ?_
        refine W_skip ?_
        refine W_seq ?_
        refine W_seq ?_
        refine W_reg rfl ?_
        refine O_qs (q_move rfl) ?_
        refine O_qs (q_eql rfl rfl) ?_
        refine O_nil ?_
        refine W_cond rfl ?_ ?_
        · intro hb1
          have h1 : t.st = 1 := of_decide_eq_true hb1
          refine W_seq ?_
          refine W_draw [[], [0], [], [2], [2, 3], [2, 3, 4], [0, 1, 2, 3, 4, 5], [0, 1, 2, 3, 4, 5, 6], [0, 1, 2, 3, 4, 5, 6, 7], [0, 1, 2, 3, 4, 5, 6, 7, 8], [0, 1, 2, 3, 4, 5, 6, 7, 8, 9], [0, 1, 2, 3, 4, 5, 6, 7], [0, 1, 2, 3, 4, 5, 6, 7, 11], [0, 1, 2, 3, 4, 5, 6, 7, 11, 12], [0, 1, 2, 3, 4, 5, 6, 7, 11, 12, 13], [0, 1, 2, 3, 4, 5, 6, 7, 8, 9, 10, 11, 12, 13, 14], [0, 1, 2, 3, 4, 5, 6, 7, 8, 9, 10, 11, 12, 13, 14, 15], [0, 1, 2, 3, 4, 5, 6, 7, 8, 9, 10, 11, 12, 13, 14, 15, 16], [0, 1, 2, 3, 4, 5, 6, 7, 8, 9, 10, 11, 12, 13, 14, 15, 16, 17], [0, 1, 2, 3, 4, 5, 6, 7, 8, 9, 10, 11, 12, 13, 14, 15, 16, 17, 18], [0, 1, 2, 3, 4, 5, 6, 7, 8, 9, 10, 11, 12, 13, 14, 15, 16, 17, 18, 19], [0, 1, 2, 3, 4, 5, 6, 7, 8, 9, 10, 11, 12, 13, 14, 15, 16, 17], [0, 1, 2, 3, 4, 5, 6, 7, 8, 9, 10, 11, 12, 13, 14, 15, 16, 17, 21], [0, 1, 2, 3, 4, 5, 6, 7, 8, 9, 10, 11, 12, 13, 14, 15, 16, 17, 21, 22], [0, 1, 2, 3, 4, 5, 6, 7, 8, 9, 10, 11, 12, 13, 14, 15, 16, 17, 21, 22, 23], [0, 1, 2, 3, 4, 5, 6, 7, 8, 9, 10, 11, 12, 13, 14, 15, 16, 17, 18, 19, 20, 21, 22, 23, 24], [0, 1, 2, 3, 4, 5, 6, 7, 8, 9, 10, 11, 12, 13, 14, 15, 16, 17, 18, 19, 20, 21, 22, 23, 24, 25], [0, 1, 2, 3, 4, 5, 6, 7, 8, 9, 10, 11, 12, 13, 14, 15, 16, 17, 18, 19, 20, 21, 22, 23, 24, 25, 26], [0, 1, 2, 3, 4, 5, 6, 7, 8, 9, 10, 11, 12, 13, 14, 15, 16, 17, 18, 19, 20, 21, 22, 23, 24, 25, 26, 27], [0, 1, 2, 3, 4, 5, 6, 7, 8, 9, 10, 11, 12, 13, 14, 15, 16, 17, 18, 19, 20, 21, 22, 23, 24, 25, 26, 27, 28], [0, 1, 2, 3, 4, 5, 6, 7, 8, 9, 10, 11, 12, 13, 14, 15, 16, 17, 18, 19, 20, 21, 22, 23, 24, 25, 26, 27, 28, 29], [0, 1, 2, 3, 4, 5, 6, 7, 8, 9, 10, 11, 12, 13, 14, 15, 16, 17, 18, 19, 20, 21, 22, 23, 24, 25, 26, 27], [0, 1, 2, 3, 4, 5, 6, 7, 8, 9, 10, 11, 12, 13, 14, 15, 16, 17, 18, 19, 20, 21, 22, 23, 24, 25, 26, 27, 31], [0, 1, 2, 3, 4, 5, 6, 7, 8, 9, 10, 11, 12, 13, 14, 15, 16, 17, 18, 19, 20, 21, 22, 23, 24, 25, 26, 27, 31, 32], [0, 1, 2, 3, 4, 5, 6, 7, 8, 9, 10, 11, 12, 13, 14, 15, 16, 17, 18, 19, 20, 21, 22, 23, 24, 25, 26, 27, 31, 32, 33], [0, 1, 2, 3, 4, 5, 6, 7, 8, 9, 10, 11, 12, 13, 14, 15, 16, 17, 18, 19, 20, 21, 22, 23, 24, 25, 26, 27, 28, 29, 30, 31, 32, 33, 34], [0, 1, 2, 3, 4, 5, 6, 7, 8, 9, 10, 11, 12, 13, 14, 15, 16, 17, 18, 19, 20, 21, 22, 23, 24, 25, 26, 27, 28, 29, 30, 31, 32, 33, 34, 35], [0, 1, 2, 3, 4, 5, 6, 7, 8, 9, 10, 11, 12, 13, 14, 15, 16, 17, 18, 19, 20, 21, 22, 23, 24, 25, 26, 27, 28, 29, 30, 31, 32, 33, 34, 35, 36], [0, 1, 2, 3, 4, 5, 6, 7, 8, 9, 10, 11, 12, 13, 14, 15, 16, 17, 18, 19, 20, 21, 22, 23, 24, 25, 26, 27, 28, 29, 30, 31, 32, 33, 34, 35, 36, 37], [0, 1, 2, 3, 4, 5, 6, 7, 8, 9, 10, 11, 12, 13, 14, 15, 16, 17, 18, 19, 20, 21, 22, 23, 24, 25, 26, 27, 28, 29, 30, 31, 32, 33, 34, 35, 36, 37, 38], [0, 1, 2, 3, 4, 5, 6, 7, 8, 9, 10, 11, 12, 13, 14, 15, 16, 17, 18, 19, 20, 21, 22, 23, 24, 25, 26, 27, 28, 29, 30, 31, 32, 33, 34, 35, 36, 37, 38, 39], [0, 1, 2, 3, 4, 5, 6, 7, 8, 9, 10, 11, 12, 13, 14, 15, 16, 17, 18, 19, 20, 21, 22, 23, 24, 25, 26, 27, 28, 29, 30, 31, 32, 33, 34, 35, 36, 37], [0, 1, 2, 3, 4, 5, 6, 7, 8, 9, 10, 11, 12, 13, 14, 15, 16, 17, 18, 19, 20, 21, 22, 23, 24, 25, 26, 27, 28, 29, 30, 31, 32, 33, 34, 35, 36, 37, 41], [0, 1, 2, 3, 4, 5, 6, 7, 8, 9, 10, 11, 12, 13, 14, 15, 16, 17, 18, 19, 20, 21, 22, 23, 24, 25, 26, 27, 28, 29, 30, 31, 32, 33, 34, 35, 36, 37, 41, 42], [0, 1, 2, 3, 4, 5, 6, 7, 8, 9, 10, 11, 12, 13, 14, 15, 16, 17, 18, 19, 20, 21, 22, 23, 24, 25, 26, 27, 28, 29, 30, 31, 32, 33, 34, 35, 36, 37, 41, 42, 43], [0, 1, 2, 3, 4, 5, 6, 7, 8, 9, 10, 11, 12, 13, 14, 15, 16, 17, 18, 19, 20, 21, 22, 23, 24, 25, 26, 27, 28, 29, 30, 31, 32, 33, 34, 35, 36, 37, 38, 39, 40, 41, 42, 43, 44], [0, 1, 2, 3, 4, 5, 6, 7, 8, 9, 10, 11, 12, 13, 14, 15, 16, 17, 18, 19, 20, 21, 22, 23, 24, 25, 26, 27, 28, 29, 30, 31, 32, 33, 34, 35, 36, 37, 38, 39, 40, 41, 42, 43, 44, 45], [0, 1, 2, 3, 4, 5, 6, 7, 8, 9, 10, 11, 12, 13, 14, 15, 16, 17, 18, 19, 20, 21, 22, 23, 24, 25, 26, 27, 28, 29, 30, 31, 32, 33, 34, 35, 36, 37, 38, 39, 40, 41, 42, 43, 44, 45, 46], [0, 1, 2, 3, 4, 5, 6, 7, 8, 9, 10, 11, 12, 13, 14, 15, 16, 17, 18, 19, 20, 21, 22, 23, 24, 25, 26, 27, 28, 29, 30, 31, 32, 33, 34, 35, 36, 37, 38, 39, 40, 41, 42, 43, 44, 45, 46, 47], [0, 1, 2, 3, 4, 5, 6, 7, 8, 9, 10, 11, 12, 13, 14, 15, 16, 17, 18, 19, 20, 21, 22, 23, 24, 25, 26, 27, 28, 29, 30, 31, 32, 33, 34, 35, 36, 37, 38, 39, 40, 41, 42, 43, 44, 45, 46, 47], [0, 1, 2, 3, 4, 5, 6, 7, 8, 9, 10, 11, 12, 13, 14, 15, 16, 17, 18, 19, 20, 21, 22, 23, 24, 25, 26, 27, 28, 29, 30, 31, 32, 33, 34, 35, 36, 37, 38, 39, 40, 41, 42, 43, 44, 45, 46, 47, 48, 49], [0, 1, 2, 3, 4, 5, 6, 7, 8, 9, 10, 11, 12, 13, 14, 15, 16, 17, 18, 19, 20, 21, 22, 23, 24, 25, 26, 27, 28, 29, 30, 31, 32, 33, 34, 35, 36, 37, 38, 39, 40, 41, 42, 43, 44, 45, 46, 47, 48, 49, 50], [0, 1, 2, 3, 4, 5, 6, 7, 8, 9, 10, 11, 12, 13, 14, 15, 16, 17, 18, 19, 20, 21, 22, 23, 24, 25, 26, 27, 28, 29, 30, 31, 32, 33, 34, 35, 36, 37, 38, 39, 40, 41, 42, 43, 44, 45, 46, 47, 48, 49, 50, 51]] rfl rfl rfl ?_
          refine V.qs 0 rfl rfl (q_move rfl) ?_
          refine V.qs 2 rfl rfl (q_move rfl) ?_
          refine V.qs 3 rfl rfl (q_nil rfl) ?_
          refine V.qs 4 rfl rfl (q_fa fa_57_10 rfl) ?_
          refine V.qs 5 rfl rfl (q_load Tryz.isAgg4 rfl (rd_chunk (by repeat (first | exact List.Mem.head _ | apply List.Mem.tail)) rfl)) ?_
          refine V.qs 1 rfl rfl (q_cf Tryz.call19 rfl (fun wd hwd => (lane_Found _ lb cb t.x)) (by repeat (first | exact Pick.nil | exact Take.here | apply Pick.cons | apply Take.there))) ?_
          refine V.qs 6 rfl rfl (q_eqbS Tryz.runUnderlying4 rfl rfl) ?_
          refine V.qs 7 rfl rfl (q_move rfl) ?_
          refine V.qs 8 rfl rfl (QY.guard rfl rfl rfl (q_move rfl)) ?_
          refine V.qs 11 rfl rfl (QY.guard rfl rfl rfl (q_move rfl)) ?_
          refine V.qs 12 rfl rfl (QY.guard rfl rfl rfl (q_nil rfl)) ?_
          refine V.qs 13 rfl rfl (QY.guard rfl rfl rfl (q_fa fa_57_9 rfl)) ?_
          refine V.qs 14 rfl rfl (QY.guard rfl rfl rfl (q_load Tryz.isAgg3 rfl (rd_chunk (by repeat (first | exact List.Mem.head _ | apply List.Mem.tail)) rfl))) ?_
          refine V.qs 9 rfl rfl (QY.guard rfl rfl rfl (q_cf Tryz.call20 rfl (fun wd hwd => (lane_Who _ lb cb t.x)) (by repeat (first | exact Pick.nil | exact Take.here | apply Pick.cons | apply Take.there)))) ?_
          refine V.qs 10 rfl rfl (QY.guard rfl rfl rfl (q_field (fd_65_0 rfl) rfl)) ?_
          refine V.qs 15 rfl rfl (QY.guard rfl rfl rfl (q_eqlS rfl rfl)) ?_
          refine V.qs 16 rfl rfl (q_pick_t rfl rfl) ?_
          refine V.qs 17 rfl rfl (q_move rfl) ?_
          refine V.qs 18 rfl rfl (QY.guard rfl rfl rfl (q_move rfl)) ?_
          refine V.qs 21 rfl rfl (QY.guard rfl rfl rfl (q_move rfl)) ?_
          refine V.qs 22 rfl rfl (QY.guard rfl rfl rfl (q_nil rfl)) ?_
          refine V.qs 23 rfl rfl (QY.guard rfl rfl rfl (q_fa fa_57_0 rfl)) ?_
          refine V.qs 24 rfl rfl (QY.guard rfl rfl rfl (q_loadN (vs := [_, _, _]) Tryz.isAgg51 Tryz.sizeOf51 rfl (rd_range (by repeat (first | exact List.Mem.head _ | apply List.Mem.tail)) rfl))) ?_
          refine V.qs 19 rfl rfl (QY.guard rfl rfl rfl (q_cf Tryz.call21 rfl (fun wd hwd => (lane_At _ lb cb t.x)) (by repeat (first | exact Pick.nil | exact Take.here | apply Pick.cons | apply Take.there)))) ?_
          refine V.qs 20 rfl rfl (QY.guard rfl rfl rfl (q_field (fd_54_0 rfl) rfl)) ?_
          refine V.qs 25 rfl rfl (QY.guard rfl rfl rfl (q_eqPlc (p := t.x.at_.place) rfl rfl rfl)) ?_
          refine V.qs 26 rfl rfl (q_pick_t rfl rfl) ?_
          refine V.qs 27 rfl rfl (q_move rfl) ?_
          refine V.qs 28 rfl rfl (QY.guard rfl rfl rfl (q_move rfl)) ?_
          refine V.qs 31 rfl rfl (QY.guard rfl rfl rfl (q_move rfl)) ?_
          refine V.qs 32 rfl rfl (QY.guard rfl rfl rfl (q_nil rfl)) ?_
          refine V.qs 33 rfl rfl (QY.guard rfl rfl rfl (q_fa fa_57_5 rfl)) ?_
          refine V.qs 34 rfl rfl (QY.guard rfl rfl rfl (q_load Tryz.isAgg23 rfl (rd_chunk (by repeat (first | exact List.Mem.head _ | apply List.Mem.tail)) rfl))) ?_
          refine V.qs 29 rfl rfl (QY.guard rfl rfl rfl (q_cf Tryz.call22 rfl (fun wd hwd => (lane_Into _ lb cb t.x)) (by repeat (first | exact Pick.nil | exact Take.here | apply Pick.cons | apply Take.there)))) ?_
          refine V.qs 30 rfl rfl (QY.guard rfl rfl rfl (q_field (fd_69_0 rfl) rfl)) ?_
          refine V.qs 35 rfl rfl (QY.guard rfl rfl rfl (q_eqlS rfl rfl)) ?_
          refine V.qs 36 rfl rfl (q_pick_t rfl rfl) ?_
          refine V.qs 37 rfl rfl (q_move rfl) ?_
          refine V.qs 38 rfl rfl (QY.guard rfl rfl rfl (q_move rfl)) ?_
          refine V.qs 41 rfl rfl (QY.guard rfl rfl rfl (q_move rfl)) ?_
          refine V.qs 42 rfl rfl (QY.guard rfl rfl rfl (q_nil rfl)) ?_
          refine V.qs 43 rfl rfl (QY.guard rfl rfl rfl (q_fa fa_57_6 rfl)) ?_
          refine V.qs 44 rfl rfl (QY.guard rfl rfl rfl (q_load Tryz.isAgg23 rfl (rd_chunk (by repeat (first | exact List.Mem.head _ | apply List.Mem.tail)) rfl))) ?_
          refine V.qs 39 rfl rfl (QY.guard rfl rfl rfl (q_cf Tryz.call23 rfl (fun wd hwd => (lane_Out _ lb cb t.x)) (by repeat (first | exact Pick.nil | exact Take.here | apply Pick.cons | apply Take.there)))) ?_
          refine V.qs 40 rfl rfl (QY.guard rfl rfl rfl (q_field (fd_69_0 rfl) rfl)) ?_
          refine V.qs 45 rfl rfl (QY.guard rfl rfl rfl (q_eqlS rfl rfl)) ?_
          refine V.qs 46 rfl rfl (q_pick_t rfl rfl) ?_
          refine V.qs 47 rfl rfl (q_move rfl) ?_
          refine V.qs 48 rfl rfl (QY.guard rfl rfl rfl (q_move rfl)) ?_
          refine V.qs 49 rfl rfl (QY.guard rfl rfl rfl (q_move rfl)) ?_
          refine V.qs 50 rfl rfl (QY.guard rfl rfl rfl (q_cf Tryz.call24 rfl (fun wd hwd => (law15_memory2 _ A' wb _ _ hA' b21 R' v' _ hR' (by omega) hk2' hm')) (by repeat (first | exact Pick.nil | exact Take.here | apply Pick.cons | apply Take.there)))) ?_
          refine V.qs 51 rfl rfl (q_pick_t rfl rfl) ?_
          refine V.qs 52 rfl rfl (q_assign rfl) ?_
          refine V.fin rfl ?_
          refine W_ret ?_
          refine res1 (c0 := []) rfl rfl (by repeat (first | exact Pick.nil | exact Take.here | apply Pick.cons | apply Take.there)) rfl ?_
          exact ⟨rfl, rfl⟩
        · intro hb1
          have n1 : ¬ t.st = 1 := of_decide_eq_false hb1
          refine W_skip ?_
          refine W_seq ?_
          refine W_reg rfl ?_
          refine O_qs (q_move rfl) ?_
          refine O_qs (q_neq rfl rfl) ?_
          refine O_nil ?_
          refine W_cond rfl ?_ ?_
          · intro hc1
            have h2 : t.st = 2 := by
              have h0 : ¬ t.st = 0 := by simpa using hc1
              omega
            have hd2 : decide (t.st = 2) = true := decide_eq_true h2
            refine W_seq ?_
            refine W_reg rfl ?_
            refine O_qs (q_move rfl) ?_
            refine O_qs (q_eql rfl rfl) ?_
            rw [hd2]
            refine O_qs (q_move rfl) ?_
            refine O_qs (QY.guard rfl rfl rfl (q_move rfl)) ?_
            refine O_qs (QY.guard rfl rfl rfl (q_move rfl)) ?_
            refine O_qs (QY.guard rfl rfl rfl (q_cf Tryz.call24 rfl (fun wd hwd => (law15_memory2 _ A' wb _ _ hA' b21 R' v' _ hR' (by omega) hk2' hm')) (by repeat (first | exact Pick.nil | exact Take.here | apply Pick.cons | apply Take.there)))) ?_
            refine O_qs (q_pick_t rfl rfl) ?_
            refine O_qs (q_assign rfl) ?_
            refine O_nil ?_
            refine W_ret ?_
            refine res1 (c0 := []) rfl rfl (by repeat (first | exact Pick.nil | exact Take.here | apply Pick.cons | apply Take.there)) rfl ?_
            exact ⟨rfl, rfl⟩
          · intro hc1
            have h0 : t.st = 0 := by simpa using hc1
            refine W_skip ?_
            refine W_reg rfl ?_
            refine O_qs (q_move rfl) ?_
            refine O_qs (q_add (c := ((i + 1 : Nat) : Int)) (w64' (by omega) (by omega)) rfl rfl) ?_
            refine O_qs (q_assign rfl) ?_
            refine O_nil ?_
            refine ⟨((i + 1, t.x, t.r), (A', ldK k t.ld t.wr.isSome, wrl l t.wr), (R', v', mwr l2 t.wr)), _, ?_, ?_, (by repeat (first | exact Sub.nil | refine Sub.cons rfl ?_)), (by repeat (first | exact Pick.nil | exact Take.here | apply Pick.cons | apply Take.there))⟩
            · exact ⟨hlt, hxm h0, hA', hR', hk2', by first | omega | (dsimp only; omega), hm'⟩
            · dsimp only; omega
    · intro hc
      refine W_exit ?_
      refine W_seq ?_
      refine W_reg rfl ?_
      refine O_qs (q_move rfl) ?_
      refine O_qs (q_move rfl) ?_
      refine O_qs (q_cf Tryz.call24 rfl (fun wd hwd => (law15_memory2 _ A wb k l hA b21 R v l2 hR (by omega) hk2 hm)) (by repeat (first | exact Pick.nil | exact Take.here | apply Pick.cons | apply Take.there))) ?_
      refine O_qs (q_assign rfl) ?_
      refine O_nil ?_
      refine W_ret ?_
      refine res1 (c0 := []) rfl rfl (by repeat (first | exact Pick.nil | exact Take.here | apply Pick.cons | apply Take.there)) rfl ?_
      exact ⟨rfl, rfl⟩
end Go.Proofs.YtbfplncdmbjjhaaGreat
