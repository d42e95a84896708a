/-
  The law of every list, step by step: the walk.
-/
import Derived.Test.YtbfplncdmbjjhaaGreatLe3
set_option linter.unusedSimpArgs false
set_option linter.unusedVariables false
namespace Go.Proofs.YtbfplncdmbjjhaaGreat
open Go Go.SL

theorem search_Lane_no (B : World) (sb cb : Nat) (root key : Int) (vals on : Bool) :
    Ctr Tryz.prog 26 [ptr sb] B [srchA sb cb root key vals (.pointer none) on] (fun u c => u = .pointer none ∧ c = [srchA sb cb root key vals (.pointer none) on]) := by
  refine Ctr.intro (n := 9) Tryz.func26 rfl Tryz.ntmps26 (Nat.le_of_ble_eq_true rfl) ?_
  refine W_seq ?_
  refine W_reg rfl ?_
  refine O_qs (q_assign rfl) ?_
  refine O_nil ?_
  refine W_seq ?_
  refine W_seq ?_
  refine W_reg rfl ?_
  refine O_qs (q_move rfl) ?_
  refine O_qs (q_eqnil Tryz.runUnderlying73 rfl rfl) ?_
  refine O_nil ?_
  refine W_false rfl ?_
  refine W_skip ?_
  refine W_seq ?_
  refine W_reg rfl ?_
  refine O_qs (q_move rfl) ?_
  refine O_qs (q_nil rfl) ?_
  refine O_qs (q_fa fa_137_4 rfl) ?_
  refine O_qs (q_load Tryz.isAgg48 rfl (rd_chunk (by repeat (first | exact List.Mem.head _ | apply List.Mem.tail)) rfl)) ?_
  refine O_qs (q_assign rfl) ?_
  refine O_nil ?_
  refine W_ret ?_
  refine res1 (c0 := [srchA sb cb root key vals (.pointer none) on]) rfl rfl (by repeat (first | exact Pick.nil | exact Take.here | apply Pick.cons | apply Take.there)) rfl ?_
  exact ⟨rfl, rfl⟩

abbrev cntA (b : Nat) (k : Count) : Atom := [(b, .cells #[.int .i64 k.loads, .int .i64 k.stores, .int .i64 k.swaps, .int .i64 k.failed, .int .i64 k.adds] 80 (0, 0))]

theorem q_eqlT {M : Mach} {all : Array Oper} {env : Env} {ctx : Ctx} {dst : Option Tmp} {ty : TypeId} {pos : String} {aft : Array Edge} {x y : Operand} {t yt : TypeId} {k : IntKind} {a b : Int} (h : a = b) (hx : evalO env x = some (.int k a)) (hy : evalO env y = some (.int k b)) : QY M all ⟨dst, .binOp .eql t x y yt, ty, pos, aft, none⟩ env ctx (.bool true) := by
  have h2 := q_eql (M := M) (all := all) (ctx := ctx) (dst := dst) (ty := ty) (pos := pos) (aft := aft) (yt := yt) (t := t) hx hy
  rw [decide_eq_true h] at h2
  exact h2

theorem SrchIs.some {S : Atom} {sb cb : Nat} {root key : Int} {vals : Bool} {s : SSt} (h : SrchIs S sb cb root key vals s) : s.on = true → s.some = true := by
  intro h1
  rcases h with ⟨_, h2, _⟩ | ⟨h2, _⟩
  · rw [h1] at h2; cases h2
  · exact h2

set_option maxHeartbeats 4000000 in
theorem law15_SeekExact (B : World) (sa : Option Addr) (cap : Nat) (L : List Nd) (rt key : Int) (vals : Bool) (sc : Option Addr) (cap2 : Nat) (acts : List Act) (hb : BaseRow layN B sa L) (hL : L.length ≤ 9223372036854775807) (hw : ∀ x, x ∈ L → NdW x)
    (hb2 : BaseRow layA B sc acts) (hL2 : acts.length ≤ 9223372036854775807) (hw2 : ∀ x, x ∈ acts → Wd x.w) :
    Ctr Tryz.prog 4 [.slice sa L.length cap, .int .i64 rt, .int .u64 key, .bool vals, .slice sc acts.length cap2] B [] (fun u c => u = .bool true ∧ c = []) := by
  obtain ⟨n3, hq, hn3⟩ : ∃ n : Nat, (IntKind.u64.wrap rt).tmod 3 = (n : Int) ∧ n < 3 := by
    have ub : 0 ≤ IntKind.u64.wrap rt := (u64_wd rt).1
    obtain ⟨n, hn⟩ := Int.eq_ofNat_of_zero_le ub
    rw [hn]
    refine ⟨n % 3, ?_, by omega⟩
    show Int.tmod (n : Int) 3 = _
    rw [Int.tmod_eq_emod_of_nonneg (by omega)]
    simp
  refine Ctr.intro (n := 244) Tryz.func4 rfl Tryz.ntmps4 (Nat.le_of_ble_eq_true rfl) ?_
  refine W_seq ?_
  refine W_reg rfl ?_
  refine O_qs (q_assign rfl) ?_
  refine O_nil ?_
  refine W_seq ?_
  refine W_seq ?_
  refine W_reg rfl ?_
  refine O_qs (q_cf Tryz.call6 rfl (fun wd hwd => (law15_awake _)) (by repeat (first | exact Pick.nil | exact Take.here | apply Pick.cons | apply Take.there))) ?_
  refine O_qs (q_not rfl) ?_
  refine O_nil ?_
  refine W_false rfl ?_
  refine W_skip ?_
  refine W_seq ?_
  refine W_reg rfl ?_
  refine O_qs (q_build rfl (bld_29 (cs := [_]) rfl)) ?_
  refine O_es (e_box (cs := #[_]) rfl rfl) ?_
  rintro _ _ ⟨b27, rfl, rfl⟩
  refine O_qs (q_assign rfl) ?_
  refine O_nil ?_
  refine W_seq ?_
  refine W_conv (ctx' := [oraw b27 (.slice none 0 0), []]) rfl ?_
  refine W_reg rfl ?_
  refine O_qs (q_move rfl) ?_
  refine O_qs (q_conv (c := IntKind.u64.wrap rt) Tryz.runUnderlying3 Tryz.runUnderlying30 rfl rfl) ?_
  refine O_qs (q_rem (by decide) hq rfl rfl) ?_
  refine O_qs (q_conv (c := (n3 : Int)) Tryz.runUnderlying30 Tryz.runUnderlying3 (w64 (by omega)) rfl) ?_
  refine O_qs (q_assign rfl) ?_
  refine O_nil ?_
  refine W_seq ?_
  refine W_reg rfl ?_
  refine O_qs (q_move rfl) ?_
  refine O_qs (q_move rfl) ?_
  refine O_qs (q_move rfl) ?_
  refine O_es (e_cf Tryz.call8 rfl (fun wd hwd => (law15_nodes _ sa L.length cap L rfl (hb.still hwd) hL hw)) (by repeat (first | exact Pick.nil | exact Take.here | apply Pick.cons | apply Take.there))) ?_
  rintro _ _ ⟨_, ⟨N, S, hN, hG, rfl⟩, rfl⟩
  have hS40 := hG.le
  obtain ⟨na, nc, rfl⟩ := hN.len
  refine O_es (e_cf Tryz.call7 rfl (fun wd hwd => (ref15_Lay _ b27 [] (.slice none 0 0) [] n3 0 5 N _ S hN (Row.nil ..) (by decide) (by omega) (by decide) (by decide))) (by repeat (first | exact Pick.nil | exact Take.here | apply Pick.cons | apply Take.there))) ?_
  rintro _ _ ⟨_, ⟨R1, v1, hR1, rfl, rfl⟩, rfl⟩
  refine O_nil ?_
  refine W_seq ?_
  refine W_reg rfl ?_
  refine O_qs (q_move rfl) ?_
  have hll := lay_len (root := (n3 : Int)) (lv := 0) (e := 5) (L := S) (l := [])
  simp only [List.length_nil] at hll
  have hk2 : Keys (lay n3 0 5 S []) := lay_keys List.nodup_nil
  refine O_es (e_cf Tryz.call9 rfl (fun wd hwd => (law15_laid _ b27 R1 v1 _ hR1 (by omega) hk2 (lay_wm (by decide) hG.wd Wm.nil))) (by repeat (first | exact Pick.nil | exact Take.here | apply Pick.cons | apply Take.there))) ?_
  rintro _ _ ⟨_, ⟨wb, A, k, l, hA, hm0, rfl, rfl⟩, rfl⟩
  refine O_qs (q_assign rfl) ?_
  refine O_nil ?_
  refine W_seq ?_
  refine W_reg rfl ?_
  have hm : mem l = mem (lay n3 0 5 S []) := funext hm0
  generalize lay n3 0 5 S [] = l2 at hR1 hll hk2 hm
  refine O_qs (q_cf Tryz.call11 rfl (fun wd hwd => (law15_conf _)) (by repeat (first | exact Pick.nil | exact Take.here | apply Pick.cons | apply Take.there))) ?_
  refine O_es (e_cf Tryz.call10 rfl (fun wd hwd => (core_New_ok _ cf15 cf15_ok)) (by repeat (first | exact Pick.nil | exact Take.here | apply Pick.cons | apply Take.there))) ?_
  rintro _ _ ⟨_, ⟨cb, qb, Q, qv, ring, qk, qh, hqs, rfl, rfl⟩, rfl⟩
  refine O_qs (q_assign rfl) ?_
  refine O_nil ?_
  refine W_seq ?_
  refine W_reg rfl ?_
  refine O_qs (q_cf Tryz.call11 rfl (fun wd hwd => (law15_conf _)) (by repeat (first | exact Pick.nil | exact Take.here | apply Pick.cons | apply Take.there))) ?_
  refine O_qs (q_build rfl (bld_45 (cs := [_, _, _, _, _, _, _, _, _, _]) rfl)) ?_
  refine O_es (e_box (cs := #[_, _, _, _, _, _, _, _, _, _]) rfl rfl) ?_
  rintro _ _ ⟨b43, rfl, rfl⟩
  refine O_qs (q_assign rfl) ?_
  refine O_nil ?_
  refine W_seq ?_
  refine W_reg rfl ?_
  refine O_qs (q_move rfl) ?_
  refine O_qs (q_move rfl) ?_
  refine O_qs (q_move rfl) ?_
  refine O_qs (q_move rfl) ?_
  refine O_es (e_cf Tryz.call25 rfl (fun wd hwd => (seek_NewSearch _ cb n3 key vals ⟨false, false, newLane ⟨rootP 0, 0⟩ 0 0 false, 0, 0⟩ rfl rfl)) (by repeat (first | exact Pick.nil | exact Take.here | apply Pick.cons | apply Take.there))) ?_
  rintro _ _ ⟨_, ⟨sb, T, hT, rfl, rfl⟩, rfl⟩
  refine O_qs (q_assign rfl) ?_
  refine O_nil ?_
  refine W_seq ?_
  refine W_reg rfl ?_
  refine O_qs (q_move rfl) ?_
  refine O_qs (q_move rfl) ?_
  refine O_qs (q_move rfl) ?_
  refine O_qs (q_build rfl (bld_77 (cs := [_, _, _, _, _]) rfl)) ?_
  refine O_es (e_box (cs := #[_, _, _, _, _]) rfl rfl) ?_
  rintro _ _ ⟨b53, rfl, rfl⟩
  refine O_qs (q_assign rfl) ?_
  refine O_nil ?_
  refine W_seq ?_
  refine W_seq ?_
  obtain rfl : T = srchA sb cb n3 key vals (.pointer none) false := by
    rcases hT with ⟨_, _, h⟩ | ⟨h, _⟩
    · exact h
    · cases h
  refine W_reg rfl ?_
  refine O_qs (q_move rfl) ?_
  refine O_qs (q_eqnil Tryz.runUnderlying73 rfl rfl) ?_
  refine O_qs (q_move rfl) ?_
  refine O_qs (QY.guard rfl rfl rfl (q_move rfl)) ?_
  refine O_qs (QY.guard rfl rfl rfl (q_cf Tryz.call26 rfl (fun wd hwd => (search_Lane_no _ sb cb n3 key vals false)) (by repeat (first | exact Pick.nil | exact Take.here | apply Pick.cons | apply Take.there)))) ?_
  refine O_qs (QY.guard rfl rfl rfl (q_nenil Tryz.runUnderlying48 rfl rfl)) ?_
  refine O_qs (q_pick_f rfl rfl) ?_
  refine O_nil ?_
  refine W_false rfl ?_
  refine W_skip ?_
  refine W_seq ?_
  refine W_reg rfl ?_
  refine O_qs (q_move rfl) ?_
  refine O_qs (q_cf Tryz.call27 rfl (fun wd hwd => (world_Count _ A wb k l hA)) (by repeat (first | exact Pick.nil | exact Take.here | apply Pick.cons | apply Take.there))) ?_
  refine O_es (e_alloc (cs := #[.int .i64 0, .int .i64 0, .int .i64 0, .int .i64 0, .int .i64 0]) Tryz.zeroValue80 rfl) ?_
  rintro _ _ ⟨b18, rfl, rfl⟩
  refine O_en (e_storeN (vs := [_, _, _, _, _]) Tryz.sizeOf80 rfl rfl rfl (by repeat (first | exact Upd.here | apply Upd.there)) rfl (by simp only [setAll, List.setIfInBounds_toArray, List.set_cons_succ, List.set_cons_zero, Nat.reduceAdd, Nat.zero_add] <;> rfl)) ?_
  rintro _ _ ⟨rfl, rfl⟩
  refine O_nil ?_
  refine W_seq ?_
  refine W_seq ?_
  refine W_reg rfl ?_
  refine O_qs (q_assign rfl) ?_
  refine O_nil ?_
  refine W_block ?_
  refine W_loopD (fun (d : (Nat × SSt) × (Atom × Atom × Count × List (Plc × Int)) × (Atom × Atom × Value × List (Plc × Int))) => [(19, .int .i64 (d.1.1 : Int)), (18, ptr b18), (17, ptr b53), (16, ptr sb), (15, ptr b43), (14, ptr cb), (13, ptr wb), (11, ptr b27), (4, .slice sc acts.length cap2)]) (fun ((_, s), (T, A, k, _), (RS, R, v, _)) => [cntA b18 k, T, coreA cb qb cf15 s.e ⟨0, 0⟩ s.r, A, RS, uraw b43 cf15 s.e (.slice none 0 0) 0 0 s.r, oraw b27 v, R]) (fun d => 300 - d.1.1) (fun ((i, s), (T, A, k, l), (RS, R, v, l2)) => i ≤ 300 ∧ SrchIs T sb cb n3 key vals s ∧ RSrchIs RS b53 n3 key vals s ∧ (s.on = true → LaneM s.x) ∧ PlainIs A wb l k ∧ Row layO 147 R v l2 ∧ Keys l2 ∧ l2.length ≤ 1000 + 2 * i ∧ mem l = mem l2) ((0, ⟨false, false, newLane ⟨rootP 0, 0⟩ 0 0 false, 0, 0⟩), (srchA sb cb n3 key vals (.pointer none) false, A, k, l), (rsrchA b53 n3 key vals (.pointer none) false, R1, v1, l2)) ?_ (by repeat (first | exact Sub.nil | refine Sub.cons rfl ?_)) (by repeat (first | exact Pick.nil | exact Take.here | apply Pick.cons | apply Take.there)) ?_
  · exact ⟨Nat.zero_le _, hT, .inl ⟨rfl, rfl, rfl⟩, (fun h => by cases h), hA, hR1, hk2, by first | omega | (dsimp only; omega), hm⟩
  · clear hA hR1 hk2 hll hm hm0 hT
    rintro ⟨⟨i, s⟩, ⟨T, A, k, l⟩, ⟨RS, R, v, l2⟩⟩ ⟨hi, hT, hRS, hM, hA, hR, hk2, hl2, hm⟩
    dsimp only at hi hT hRS hM hA hR hk2 hl2 hm ⊢
    refine W_seq ?_
    refine W_seq ?_
    refine W_reg rfl ?_
    refine O_qs (q_move rfl) ?_
    refine O_qs (q_lss rfl rfl) ?_
    refine O_nil ?_
    refine W_cond rfl ?_ ?_
    · intro hc
      have hlt : i < 300 := by simp at hc; omega
      refine W_skip ?_
      refine W_seq ?_
      refine W_block ?_
      refine W_seq ?_
      refine W_seq ?_
      refine W_reg rfl ?_
      refine O_qs (q_move rfl) ?_
      refine O_qs (q_move rfl) ?_
      refine O_qs (q_len Tryz.runUnderlying24 rfl) ?_
      refine O_qs (q_lss rfl rfl) ?_
      refine O_nil ?_
      refine W_cut (fun (d : (Atom × Count × List (Plc × Int)) × (Atom × Value × List (Plc × Int))) => [(19, .int .i64 (i : Int)), (18, ptr b18), (17, ptr b53), (16, ptr sb), (15, ptr b43), (14, ptr cb), (13, ptr wb), (11, ptr b27), (4, .slice sc acts.length cap2)]) (fun ((A, k, _), (R, v, _)) => [cntA b18 k, T, coreA cb qb cf15 s.e ⟨0, 0⟩ s.r, A, RS, uraw b43 cf15 s.e (.slice none 0 0) 0 0 s.r, oraw b27 v, R]) (fun ((A, k, l), (R, v, l2)) => PlainIs A wb l k ∧ Row layO 147 R v l2 ∧ Keys l2 ∧ l2.length ≤ 1001 + 2 * i ∧ mem l = mem l2) ?_ ?_
      · refine W_cond rfl ?_ ?_
        · intro hc2
          have hla : i < acts.length := by simpa using hc2
          obtain ⟨ab, ao, rfl⟩ := hb2.ptr hla
          have hV : acts[i]? = some acts[i] := List.getElem?_eq_getElem hla
          have hywd : Wd acts[i].w := hw2 _ (List.getElem_mem hla)
          generalize acts[i] = y at hV hywd
          have h1 := mwr_len l2 (y.wr (mem l2))
          refine W_seq ?_
          refine W_seq ?_
          refine W_reg rfl ?_
          refine O_qs (q_move rfl) ?_
          refine O_qs (q_move rfl) ?_
          refine O_qs (q_ian Tryz.runUnderlying24 Tryz.sizeOf60 rfl rfl hla) ?_
          refine O_qs (q_fa fa_60_0 rfl) ?_
          refine O_qs (q_load Tryz.isAgg3 rfl (hb2.rd hV (j := 0) rfl rfl)) ?_
          refine O_qs (q_eql rfl rfl) ?_
          refine O_qs (q_move rfl) ?_
          refine O_qs (QY.cond0 rfl rfl rfl (fun H => q_move rfl)) ?_
          refine O_qs (QY.cond0 rfl rfl rfl (fun H => q_move rfl)) ?_
          refine O_qs (QY.cond0 rfl rfl rfl (fun H => q_ian Tryz.runUnderlying24 Tryz.sizeOf60 (gvh rfl H) (gvh rfl H) hla)) ?_
          refine O_qs (QY.cond0 rfl rfl rfl (fun H => q_fa fa_60_0 (gvh rfl H))) ?_
          refine O_qs (QY.cond0 rfl rfl rfl (fun H => q_load Tryz.isAgg3 (gvh rfl H) (hb2.rd hV (j := 0) rfl rfl))) ?_
          refine O_qs (QY.cond0 rfl rfl rfl (fun H => q_eql (gvh rfl H) rfl)) ?_
          refine O_qs (q_or rfl rfl rfl) ?_
          refine O_nil ?_
          refine W_cond rfl ?_ ?_
          · intro hp
            have hk23 : y.kind = 2 ∨ y.kind = 3 := by
              rw [Bool.or_eq_true] at hp
              rcases hp with h | h
              · exact .inl (of_decide_eq_true h)
              · exact .inr (of_decide_eq_true h)
            have hst : stK k (y.wr (mem l2)) = { k with stores := inc k.stores } := by
              rcases hk23 with h | h <;> simp [stK, Act.wr, h]
            refine W_reg rfl ?_
            refine O_qs (q_fa fa_80_1 rfl) ?_
            refine O_qs (q_load Tryz.isAgg3 rfl (rd_chunk (by repeat (first | exact List.Mem.head _ | apply List.Mem.tail)) rfl)) ?_
            refine O_qs (q_add (c := inc k.stores) rfl rfl rfl) ?_
            refine O_qs (q_fa fa_80_1 rfl) ?_
            refine O_en (e_store Tryz.sizeOf3 rfl rfl rfl (by repeat (first | exact Upd.here | apply Upd.there)) rfl (by simp only [setAll, List.setIfInBounds_toArray, List.set_cons_succ, List.set_cons_zero, Nat.reduceAdd, Nat.zero_add] <;> rfl)) ?_
            rintro _ _ ⟨rfl, rfl⟩
            refine O_nil ?_
            refine W_seq ?_
            refine W_seq ?_
            refine W_reg rfl ?_
            refine O_qs (q_move rfl) ?_
            refine O_qs (q_move rfl) ?_
            refine O_qs (q_ian Tryz.runUnderlying24 Tryz.sizeOf60 rfl rfl hla) ?_
            refine O_qs (q_fa fa_60_0 rfl) ?_
            refine O_qs (q_load Tryz.isAgg3 rfl (hb2.rd hV (j := 0) rfl rfl)) ?_
            refine O_qs (q_eql rfl rfl) ?_
            refine O_nil ?_
            refine W_fa rfl ((by simp; omega)) ?_
            refine W_skip ?_
            refine W_reg rfl ?_
            refine O_qs (q_move rfl) ?_
            refine O_qs (q_move rfl) ?_
            refine O_qs (q_move rfl) ?_
            refine O_qs (q_move rfl) ?_
            refine O_qs (q_ian Tryz.runUnderlying24 Tryz.sizeOf60 rfl rfl hla) ?_
            refine O_qs (q_loadN (vs := Act.l y) Tryz.isAgg60 Tryz.sizeOf60 rfl (hb2.rds hV rfl)) ?_
            refine O_es (e_cf Tryz.call16 rfl (fun wd hwd => (law15_disturb _ A wb k l hA b27 R v l2 hR (by omega) y hywd)) (by repeat (first | exact Pick.nil | exact Take.here | apply Pick.cons | apply Take.there))) ?_
            rintro _ _ ⟨_, ⟨A', R', v', hA', hR', rfl, rfl⟩, rfl⟩
            refine O_nil ?_
            rw [hst] at hA'
            refine ⟨((A', { k with stores := inc k.stores }, wrl l (y.wr (mem l2))), (R', v', mwr l2 (y.wr (mem l2)))), _, ?_, (by repeat (first | exact Sub.nil | refine Sub.cons rfl ?_)), (by repeat (first | exact Pick.nil | exact Take.here | apply Pick.cons | apply Take.there))⟩
            exact ⟨hA', hR', mwr_keys hk2 _, by first | omega | (dsimp only; omega), by rw [mem_wrl hA.keys, mem_mwr, hm]⟩
          · intro hp
            rw [Bool.or_eq_false_iff] at hp
            have n2 : ¬ y.kind = 2 := of_decide_eq_false hp.1
            have n3' : ¬ y.kind = 3 := of_decide_eq_false hp.2
            refine W_skip ?_
            refine W_seq ?_
            refine W_seq ?_
            refine W_reg rfl ?_
            refine O_qs (q_move rfl) ?_
            refine O_qs (q_move rfl) ?_
            refine O_qs (q_ian Tryz.runUnderlying24 Tryz.sizeOf60 rfl rfl hla) ?_
            refine O_qs (q_fa fa_60_0 rfl) ?_
            refine O_qs (q_load Tryz.isAgg3 rfl (hb2.rd hV (j := 0) rfl rfl)) ?_
            refine O_qs (q_eql rfl rfl) ?_
            refine O_nil ?_
            refine W_cond rfl ?_ ?_
            · intro hq1
              have h1' : y.kind = 1 := of_decide_eq_true hq1
              have hst : stK k (y.wr (mem l2)) = { k with stores := inc k.stores } := by simp [stK, Act.wr, h1']
              refine W_reg rfl ?_
              refine O_qs (q_fa fa_80_1 rfl) ?_
              refine O_qs (q_load Tryz.isAgg3 rfl (rd_chunk (by repeat (first | exact List.Mem.head _ | apply List.Mem.tail)) rfl)) ?_
              refine O_qs (q_add (c := inc k.stores) rfl rfl rfl) ?_
              refine O_qs (q_fa fa_80_1 rfl) ?_
              refine O_en (e_store Tryz.sizeOf3 rfl rfl rfl (by repeat (first | exact Upd.here | apply Upd.there)) rfl (by simp only [setAll, List.setIfInBounds_toArray, List.set_cons_succ, List.set_cons_zero, Nat.reduceAdd, Nat.zero_add] <;> rfl)) ?_
              rintro _ _ ⟨rfl, rfl⟩
              refine O_nil ?_
              refine W_reg rfl ?_
              refine O_qs (q_move rfl) ?_
              refine O_qs (q_move rfl) ?_
              refine O_qs (q_move rfl) ?_
              refine O_qs (q_move rfl) ?_
              refine O_qs (q_ian Tryz.runUnderlying24 Tryz.sizeOf60 rfl rfl hla) ?_
              refine O_qs (q_loadN (vs := Act.l y) Tryz.isAgg60 Tryz.sizeOf60 rfl (hb2.rds hV rfl)) ?_
              refine O_es (e_cf Tryz.call16 rfl (fun wd hwd => (law15_disturb _ A wb k l hA b27 R v l2 hR (by omega) y hywd)) (by repeat (first | exact Pick.nil | exact Take.here | apply Pick.cons | apply Take.there))) ?_
              rintro _ _ ⟨_, ⟨A', R', v', hA', hR', rfl, rfl⟩, rfl⟩
              refine O_nil ?_
              rw [hst] at hA'
              refine ⟨((A', { k with stores := inc k.stores }, wrl l (y.wr (mem l2))), (R', v', mwr l2 (y.wr (mem l2)))), _, ?_, (by repeat (first | exact Sub.nil | refine Sub.cons rfl ?_)), (by repeat (first | exact Pick.nil | exact Take.here | apply Pick.cons | apply Take.there))⟩
              exact ⟨hA', hR', mwr_keys hk2 _, by first | omega | (dsimp only; omega), by rw [mem_wrl hA.keys, mem_mwr, hm]⟩
            · intro hq1
              have n1 : ¬ y.kind = 1 := of_decide_eq_false hq1
              have hst : stK k (y.wr (mem l2)) = k := by simp [stK, Act.wr, n1, n2, n3']
              refine W_skip ?_
              refine W_reg rfl ?_
              refine O_qs (q_move rfl) ?_
              refine O_qs (q_move rfl) ?_
              refine O_qs (q_move rfl) ?_
              refine O_qs (q_move rfl) ?_
              refine O_qs (q_ian Tryz.runUnderlying24 Tryz.sizeOf60 rfl rfl hla) ?_
              refine O_qs (q_loadN (vs := Act.l y) Tryz.isAgg60 Tryz.sizeOf60 rfl (hb2.rds hV rfl)) ?_
              refine O_es (e_cf Tryz.call16 rfl (fun wd hwd => (law15_disturb _ A wb k l hA b27 R v l2 hR (by omega) y hywd)) (by repeat (first | exact Pick.nil | exact Take.here | apply Pick.cons | apply Take.there))) ?_
              rintro _ _ ⟨_, ⟨A', R', v', hA', hR', rfl, rfl⟩, rfl⟩
              refine O_nil ?_
              rw [hst] at hA'
              refine ⟨((A', k, wrl l (y.wr (mem l2))), (R', v', mwr l2 (y.wr (mem l2)))), _, ?_, (by repeat (first | exact Sub.nil | refine Sub.cons rfl ?_)), (by repeat (first | exact Pick.nil | exact Take.here | apply Pick.cons | apply Take.there))⟩
              exact ⟨hA', hR', mwr_keys hk2 _, by first | omega | (dsimp only; omega), by rw [mem_wrl hA.keys, mem_mwr, hm]⟩
        · intro hc2
          refine W_skip ?_
          refine ⟨((A, k, l), (R, v, l2)), _, ?_, (by repeat (first | exact Sub.nil | refine Sub.cons rfl ?_)), (by repeat (first | exact Pick.nil | exact Take.here | apply Pick.cons | apply Take.there))⟩
          exact ⟨hA, hR, hk2, by first | omega | (dsimp only; omega), hm⟩
      · clear hA hR hk2 hl2 hm
        rintro ⟨⟨A, k, l⟩, ⟨R, v, l2⟩⟩ ⟨hA, hR, hk2, hl2, hm⟩
        dsimp only at hA hR hk2 hl2 hm ⊢
        refine W_seq ?_
        refine W_reg rfl ?_
        refine O_qs (q_move rfl) ?_
        refine O_qs (q_move rfl) ?_
        refine O_qs (q_mkI mki_33 rfl) ?_
        refine O_es (e_cf Tryz.call28 rfl (fun wd hwd => (search_Step _ T sb cb qb n3 key vals s cf15 ⟨0, 0⟩ A wb k l hT hA)) (by repeat (first | exact Pick.nil | exact Take.here | apply Pick.cons | apply Take.there))) ?_
        rintro _ _ ⟨_, ⟨T', A', hT', hA', rfl, rfl⟩, rfl⟩
        refine O_qs (q_assign rfl) ?_
        refine O_nil ?_
        refine W_seq ?_
        refine W_seq ?_
        refine W_draw [[], [], [], [], [1, 2, 3], [0, 1, 2, 3, 4], [0, 1, 2, 3, 4, 5], [0, 1, 2, 3, 4, 5, 6], [0, 1, 2, 3, 4, 5, 6, 7], [0, 1, 2, 3, 4, 5, 6], [0, 1, 2, 3, 4, 5, 6, 9], [0, 1, 2, 3, 4, 5, 6, 9, 10], [0, 1, 2, 3, 4, 5, 6, 9, 10, 11], [0, 1, 2, 3, 4, 5, 6, 7, 8, 9, 10, 11, 12], [0, 1, 2, 3, 4, 5, 6, 7, 8, 9, 10, 11, 12, 13], [0, 1, 2, 3, 4, 5, 6, 7, 8, 9, 10, 11, 12, 13, 14], [0, 1, 2, 3, 4, 5, 6, 7, 8, 9, 10, 11, 12, 13, 14, 15], [0, 1, 2, 3, 4, 5, 6, 7, 8, 9, 10, 11, 12, 13, 14, 15, 16], [0, 1, 2, 3, 4, 5, 6, 7, 8, 9, 10, 11, 12, 13, 14, 15], [0, 1, 2, 3, 4, 5, 6, 7, 8, 9, 10, 11, 12, 13, 14, 15, 18], [0, 1, 2, 3, 4, 5, 6, 7, 8, 9, 10, 11, 12, 13, 14, 15, 18, 19], [0, 1, 2, 3, 4, 5, 6, 7, 8, 9, 10, 11, 12, 13, 14, 15, 18, 19, 20], [0, 1, 2, 3, 4, 5, 6, 7, 8, 9, 10, 11, 12, 13, 14, 15, 16, 17, 18, 19, 20, 21], [0, 1, 2, 3, 4, 5, 6, 7, 8, 9, 10, 11, 12, 13, 14, 15, 16, 17, 18, 19, 20, 21, 22]] rfl rfl rfl ?_
        refine V.qs 0 rfl rfl (q_move rfl) ?_
        refine V.qs 1 rfl rfl (q_move rfl) ?_
        refine V.qs 2 rfl rfl (q_move rfl) ?_
        refine V.qs 3 rfl rfl (q_move rfl) ?_
        rw [hm] at hT' hA' ⊢
        refine V.e1s 4 [0] rfl rfl rfl (e_cf Tryz.call29 rfl (fun wd hwd => (ref15_Search_Step _ RS b53 b43 b27 n3 key vals s cf15 0 0 (.slice none 0 0) R v l2 hRS hM hR (by omega) (by rw [← hm]; exact hA.wds.mem _))) (by repeat (first | exact Pick.nil | exact Take.here | apply Pick.cons | apply Take.there))) ?_
        rintro _ _ ⟨_, ⟨RS', R', v', hRS', hR', rfl, rfl⟩, rfl⟩
        refine ⟨st rfl rfl (q_move rfl) (st_nil), ?_⟩
        refine V.qs 5 rfl rfl (q_neqF rfl rfl rfl) ?_
        refine V.qs 6 rfl rfl (q_move rfl) ?_
        refine V.qs 7 rfl rfl (QY.guard rfl rfl rfl (q_move rfl)) ?_
        refine V.qs 9 rfl rfl (QY.guard rfl rfl rfl (q_move rfl)) ?_
        refine V.qs 10 rfl rfl (QY.guard rfl rfl rfl (q_nil rfl)) ?_
        refine V.qs 11 rfl rfl (QY.guard rfl rfl rfl (q_fa fa_45_4 rfl)) ?_
        refine V.qs 12 rfl rfl (QY.guard rfl rfl rfl (q_load Tryz.isAgg3 rfl (rd_chunk (by repeat (first | exact List.Mem.head _ | apply List.Mem.tail)) rfl))) ?_
        have hst := SSt.step_st (root := (n3 : Int)) (key := key) (vals := vals) (s := s) (m := mem l2)
        have hsm := SSt.step_some (root := (n3 : Int)) (key := key) (vals := vals) (m := mem l2) hT.some
        have hxm := SSt.nextM (root := (n3 : Int)) (key := key) (vals := vals) (m := mem l2) (fun p => by rw [← hm]; exact hA.wds.mem p) hM
        have hk1 := hA.keys
        generalize s.step n3 key vals (mem l2) = t at hT' hA' hRS' hR' hst hsm hxm ⊢
        refine V.qs 8 rfl rfl (QY.guard rfl rfl rfl (q_cf Tryz.call30 rfl (fun wd hwd => (core_Rolls _ cb qb cf15 t.s.e ⟨0, 0⟩ t.s.r)) (by repeat (first | exact Pick.nil | exact Take.here | apply Pick.cons | apply Take.there)))) ?_
        refine V.qs 13 rfl rfl (QY.guard rfl rfl rfl (q_neqF rfl rfl rfl)) ?_
        refine V.qs 14 rfl rfl (q_pick_f rfl rfl) ?_
        refine V.qs 15 rfl rfl (q_move rfl) ?_
        refine V.qs 16 rfl rfl (QY.guard rfl rfl rfl (q_move rfl)) ?_
        refine V.qs 18 rfl rfl (QY.guard rfl rfl rfl (q_move rfl)) ?_
        refine V.qs 19 rfl rfl (QY.guard rfl rfl rfl (q_nil rfl)) ?_
        refine V.qs 20 rfl rfl (QY.guard rfl rfl rfl (q_fa fa_45_1 rfl)) ?_
        refine V.qs 21 rfl rfl (QY.guard rfl rfl rfl (q_load Tryz.isAgg3 rfl (rd_chunk (by repeat (first | exact List.Mem.head _ | apply List.Mem.tail)) rfl))) ?_
        refine V.qs 17 rfl rfl (QY.guard rfl rfl rfl (q_cf Tryz.call31 rfl (fun wd hwd => (core_Epoch _ cb qb cf15 t.s.e ⟨0, 0⟩ t.s.r)) (by repeat (first | exact Pick.nil | exact Take.here | apply Pick.cons | apply Take.there)))) ?_
        refine V.qs 22 rfl rfl (QY.guard rfl rfl rfl (q_neqF rfl rfl rfl)) ?_
        refine V.qs 23 rfl rfl (q_pick_f rfl rfl) ?_
        refine V.fin rfl ?_
        have hm' : mem (wrl l t.wr) = mem (mwr l2 t.wr) := by rw [mem_wrl hk1, mem_mwr, hm]
        have hk2' := mwr_keys hk2 t.wr
        have hl2' := mwr_len l2 t.wr
        have hsum := sum_step k t.ld t.wr.isSome
        have hsto := ldK_stores k t.ld t.wr.isSome
        refine W_false rfl ?_
        refine W_skip ?_
        refine W_seq ?_
        refine W_reg rfl ?_
        refine O_qs (q_move rfl) ?_
        refine O_qs (q_cf Tryz.call27 rfl (fun wd hwd => (world_Count _ A' wb _ _ hA')) (by repeat (first | exact Pick.nil | exact Take.here | apply Pick.cons | apply Take.there))) ?_
        refine O_es (e_alloc (cs := #[.int .i64 0, .int .i64 0, .int .i64 0, .int .i64 0, .int .i64 0]) Tryz.zeroValue80 rfl) ?_
        rintro _ _ ⟨b21, rfl, rfl⟩
        refine O_en (e_storeN (vs := [_, _, _, _, _]) Tryz.sizeOf80 rfl rfl rfl (by repeat (first | exact Upd.here | apply Upd.there)) rfl (by simp only [setAll, List.setIfInBounds_toArray, List.set_cons_succ, List.set_cons_zero, Nat.reduceAdd, Nat.zero_add] <;> rfl)) ?_
        rintro _ _ ⟨rfl, rfl⟩
        refine O_nil ?_
        refine W_seq ?_
        refine W_seq ?_
        refine W_reg rfl ?_
        refine O_qs (q_fa fa_80_0 rfl) ?_
        refine O_qs (q_load Tryz.isAgg3 rfl (rd_chunk (by repeat (first | exact List.Mem.head _ | apply List.Mem.tail)) rfl)) ?_
        refine O_qs (q_fa fa_80_2 rfl) ?_
        refine O_qs (q_load Tryz.isAgg3 rfl (rd_chunk (by repeat (first | exact List.Mem.head _ | apply List.Mem.tail)) rfl)) ?_
        refine O_qs (q_add rfl rfl rfl) ?_
        refine O_qs (q_fa fa_80_1 rfl) ?_
        refine O_qs (q_load Tryz.isAgg3 rfl (rd_chunk (by repeat (first | exact List.Mem.head _ | apply List.Mem.tail)) rfl)) ?_
        refine O_qs (q_add rfl rfl rfl) ?_
        refine O_qs (q_fa fa_80_4 rfl) ?_
        refine O_qs (q_load Tryz.isAgg3 rfl (rd_chunk (by repeat (first | exact List.Mem.head _ | apply List.Mem.tail)) rfl)) ?_
        refine O_qs (q_add rfl rfl rfl) ?_
        refine O_qs (q_fa fa_80_0 rfl) ?_
        refine O_qs (q_load Tryz.isAgg3 rfl (rd_chunk (by repeat (first | exact List.Mem.head _ | apply List.Mem.tail)) rfl)) ?_
        refine O_qs (q_fa fa_80_2 rfl) ?_
        refine O_qs (q_load Tryz.isAgg3 rfl (rd_chunk (by repeat (first | exact List.Mem.head _ | apply List.Mem.tail)) rfl)) ?_
        refine O_qs (q_add rfl rfl rfl) ?_
        refine O_qs (q_fa fa_80_1 rfl) ?_
        refine O_qs (q_load Tryz.isAgg3 rfl (rd_chunk (by repeat (first | exact List.Mem.head _ | apply List.Mem.tail)) rfl)) ?_
        refine O_qs (q_add rfl rfl rfl) ?_
        refine O_qs (q_fa fa_80_4 rfl) ?_
        refine O_qs (q_load Tryz.isAgg3 rfl (rd_chunk (by repeat (first | exact List.Mem.head _ | apply List.Mem.tail)) rfl)) ?_
        refine O_qs (q_add rfl rfl rfl) ?_
        refine O_qs (q_add rfl rfl rfl) ?_
        refine O_qs (q_neqF hsum rfl rfl) ?_
        refine O_qs (q_move rfl) ?_
        refine O_qs (QY.guard rfl rfl rfl (q_fa fa_80_1 rfl)) ?_
        refine O_qs (QY.guard rfl rfl rfl (q_load Tryz.isAgg3 rfl (rd_chunk (by repeat (first | exact List.Mem.head _ | apply List.Mem.tail)) rfl))) ?_
        refine O_qs (QY.guard rfl rfl rfl (q_fa fa_80_1 rfl)) ?_
        refine O_qs (QY.guard rfl rfl rfl (q_load Tryz.isAgg3 rfl (rd_chunk (by repeat (first | exact List.Mem.head _ | apply List.Mem.tail)) rfl))) ?_
        refine O_qs (QY.guard rfl rfl rfl (q_neqF hsto rfl rfl)) ?_
        refine O_qs (q_pick_f rfl rfl) ?_
        refine O_nil ?_
        refine W_false rfl ?_
        refine W_skip ?_
        refine W_seq ?_
        refine W_reg rfl ?_
        refine O_qs (q_loadN (vs := [_, _, _, _, _]) Tryz.isAgg80 Tryz.sizeOf80 rfl (rd_range (by repeat (first | exact List.Mem.head _ | apply List.Mem.tail)) rfl)) ?_
        refine O_en (e_storeN (vs := [_, _, _, _, _]) Tryz.sizeOf80 rfl rfl rfl (by repeat (first | exact Upd.here | apply Upd.there)) rfl (by simp only [setAll, List.setIfInBounds_toArray, List.set_cons_succ, List.set_cons_zero, Nat.reduceAdd, Nat.zero_add] <;> rfl)) ?_
        rintro _ _ ⟨rfl, rfl⟩
        refine O_nil ?_
        refine W_seq ?_
        refine W_reg rfl ?_
        refine O_qs (q_move rfl) ?_
        refine O_qs (q_neq rfl rfl) ?_
        refine O_nil ?_
        refine W_cond rfl ?_ ?_
        · intro hd
          have h1 : t.st = 1 := by
            have h0 : ¬ t.st = 0 := by simpa using hd
            omega
          obtain ⟨hok, lb, rfl⟩ := hT'.found hsm
          obtain ⟨rb, rfl⟩ := hRS'.found hsm
          refine W_seq ?_
          refine W_weak (env' := [(20, .int .i64 t.st), (17, ptr b53), (16, ptr sb), (13, ptr wb), (11, ptr b27)]) (ctx' := [srchA sb cb n3 key vals (ptr lb) t.s.on ++ laneA lb cb t.s.x, A', rsrchA b53 n3 key vals (ptr rb) t.s.on ++ rlaneA rb t.s.x, oraw b27 v', R']) (by repeat (first | exact Sub.nil | refine Sub.cons rfl ?_)) (by repeat (first | exact Pick.nil | exact Take.here | apply Pick.cons | apply Take.there)) ?_
          refine W_conv (ctx' := [srchA sb cb n3 key vals (ptr lb) t.s.on, laneA lb cb t.s.x, A', rsrchA b53 n3 key vals (ptr rb) t.s.on, rlaneA rb t.s.x, oraw b27 v', R']) rfl ?_
          refine W_reg rfl ?_
          refine O_qs (q_move rfl) ?_
          refine O_qs (q_cf Tryz.call26 rfl (fun wd hwd => (search_Lane_ok _ sb cb lb n3 key vals t.s.on t.s.x)) (by repeat (first | exact Pick.nil | exact Take.here | apply Pick.cons | apply Take.there))) ?_
          refine O_qs (q_assign rfl) ?_
          refine O_nil ?_
          refine W_seq ?_
          refine W_reg rfl ?_
          refine O_qs (q_move rfl) ?_
          refine O_qs (q_nil rfl) ?_
          refine O_qs (q_fa fa_77_4 rfl) ?_
          refine O_qs (q_load Tryz.isAgg55 rfl (rd_chunk (by repeat (first | exact List.Mem.head _ | apply List.Mem.tail)) rfl)) ?_
          refine O_qs (q_assign rfl) ?_
          refine O_nil ?_
          refine W_seq ?_
          refine W_draw [[], [0], [0, 1], [0, 1, 2], [0, 1, 2, 3], [0, 1, 2], [0, 1, 2, 5], [0, 1, 2, 5, 6], [0, 1, 2, 5, 6, 7], [0, 1, 2, 3, 4, 5, 6, 7, 8], [0, 1, 2, 3, 4, 5, 6, 7, 8, 9], [0, 1, 2, 3, 4, 5, 6, 7, 8, 9, 10], [0, 1, 2, 3, 4, 5, 6, 7, 8, 9, 10, 11], [0, 1, 2, 3, 4, 5, 6, 7, 8, 9, 10, 11, 12], [0, 1, 2, 3, 4, 5, 6, 7, 8, 9, 10, 11, 12, 13], [0, 1, 2, 3, 4, 5, 6, 7, 8, 9, 10, 11], [0, 1, 2, 3, 4, 5, 6, 7, 8, 9, 10, 11, 15], [0, 1, 2, 3, 4, 5, 6, 7, 8, 9, 10, 11, 15, 16], [0, 1, 2, 3, 4, 5, 6, 7, 8, 9, 10, 11, 15, 16, 17], [0, 1, 2, 3, 4, 5, 6, 7, 8, 9, 10, 11, 12, 13, 14, 15, 16, 17, 18], [0, 1, 2, 3, 4, 5, 6, 7, 8, 9, 10, 11, 12, 13, 14, 15, 16, 17, 18, 19], [0, 1, 2, 3, 4, 5, 6, 7, 8, 9, 10, 11, 12, 13, 14, 15, 16, 17, 18, 19, 20], [0, 1, 2, 3, 4, 5, 6, 7, 8, 9, 10, 11, 12, 13, 14, 15, 16, 17, 18, 19, 20, 21], [0, 1, 2, 3, 4, 5, 6, 7, 8, 9, 10, 11, 12, 13, 14, 15, 16, 17, 18, 19, 20, 21, 22], [0, 1, 2, 3, 4, 5, 6, 7, 8, 9, 10, 11, 12, 13, 14, 15, 16, 17, 18, 19, 20, 21, 22, 23], [0, 1, 2, 3, 4, 5, 6, 7, 8, 9, 10, 11, 12, 13, 14, 15, 16, 17, 18, 19, 20, 21], [0, 1, 2, 3, 4, 5, 6, 7, 8, 9, 10, 11, 12, 13, 14, 15, 16, 17, 18, 19, 20, 21, 25], [0, 1, 2, 3, 4, 5, 6, 7, 8, 9, 10, 11, 12, 13, 14, 15, 16, 17, 18, 19, 20, 21, 25, 26], [0, 1, 2, 3, 4, 5, 6, 7, 8, 9, 10, 11, 12, 13, 14, 15, 16, 17, 18, 19, 20, 21, 25, 26, 27], [0, 1, 2, 3, 4, 5, 6, 7, 8, 9, 10, 11, 12, 13, 14, 15, 16, 17, 18, 19, 20, 21, 22, 23, 24, 25, 26, 27, 28], [0, 1, 2, 3, 4, 5, 6, 7, 8, 9, 10, 11, 12, 13, 14, 15, 16, 17, 18, 19, 20, 21, 22, 23, 24, 25, 26, 27, 28, 29], [0, 1, 2, 3, 4, 5, 6, 7, 8, 9, 10, 11, 12, 13, 14, 15, 16, 17, 18, 19, 20, 21, 22, 23, 24, 25, 26, 27, 28, 29, 30], [0, 1, 2, 3, 4, 5, 6, 7, 8, 9, 10, 11, 12, 13, 14, 15, 16, 17, 18, 19, 20, 21, 22, 23, 24, 25, 26, 27, 28, 29, 30, 31], [0, 1, 2, 3, 4, 5, 6, 7, 8, 9, 10, 11, 12, 13, 14, 15, 16, 17, 18, 19, 20, 21, 22, 23, 24, 25, 26, 27, 28, 29, 30, 31, 32], [0, 1, 2, 3, 4, 5, 6, 7, 8, 9, 10, 11, 12, 13, 14, 15, 16, 17, 18, 19, 20, 21, 22, 23, 24, 25, 26, 27, 28, 29, 30, 31, 32, 33], [0, 1, 2, 3, 4, 5, 6, 7, 8, 9, 10, 11, 12, 13, 14, 15, 16, 17, 18, 19, 20, 21, 22, 23, 24, 25, 26, 27, 28, 29, 30, 31], [0, 1, 2, 3, 4, 5, 6, 7, 8, 9, 10, 11, 12, 13, 14, 15, 16, 17, 18, 19, 20, 21, 22, 23, 24, 25, 26, 27, 28, 29, 30, 31, 35], [0, 1, 2, 3, 4, 5, 6, 7, 8, 9, 10, 11, 12, 13, 14, 15, 16, 17, 18, 19, 20, 21, 22, 23, 24, 25, 26, 27, 28, 29, 30, 31, 35, 36], [0, 1, 2, 3, 4, 5, 6, 7, 8, 9, 10, 11, 12, 13, 14, 15, 16, 17, 18, 19, 20, 21, 22, 23, 24, 25, 26, 27, 28, 29, 30, 31, 35, 36, 37], [0, 1, 2, 3, 4, 5, 6, 7, 8, 9, 10, 11, 12, 13, 14, 15, 16, 17, 18, 19, 20, 21, 22, 23, 24, 25, 26, 27, 28, 29, 30, 31, 32, 33, 34, 35, 36, 37, 38], [0, 1, 2, 3, 4, 5, 6, 7, 8, 9, 10, 11, 12, 13, 14, 15, 16, 17, 18, 19, 20, 21, 22, 23, 24, 25, 26, 27, 28, 29, 30, 31, 32, 33, 34, 35, 36, 37, 38, 39], [0, 1, 2, 3, 4, 5, 6, 7, 8, 9, 10, 11, 12, 13, 14, 15, 16, 17, 18, 19, 20, 21, 22, 23, 24, 25, 26, 27, 28, 29, 30, 31, 32, 33, 34, 35, 36, 37, 38, 39, 40], [0, 1, 2, 3, 4, 5, 6, 7, 8, 9, 10, 11, 12, 13, 14, 15, 16, 17, 18, 19, 20, 21, 22, 23, 24, 25, 26, 27, 28, 29, 30, 31, 32, 33, 34, 35, 36, 37, 38, 39, 40, 41], [0, 1, 2, 3, 4, 5, 6, 7, 8, 9, 10, 11, 12, 13, 14, 15, 16, 17, 18, 19, 20, 21, 22, 23, 24, 25, 26, 27, 28, 29, 30, 31, 32, 33, 34, 35, 36, 37, 38, 39, 40, 41, 42], [0, 1, 2, 3, 4, 5, 6, 7, 8, 9, 10, 11, 12, 13, 14, 15, 16, 17, 18, 19, 20, 21, 22, 23, 24, 25, 26, 27, 28, 29, 30, 31, 32, 33, 34, 35, 36, 37, 38, 39, 40, 41, 42, 43], [0, 1, 2, 3, 4, 5, 6, 7, 8, 9, 10, 11, 12, 13, 14, 15, 16, 17, 18, 19, 20, 21, 22, 23, 24, 25, 26, 27, 28, 29, 30, 31, 32, 33, 34, 35, 36, 37, 38, 39, 40, 41], [0, 1, 2, 3, 4, 5, 6, 7, 8, 9, 10, 11, 12, 13, 14, 15, 16, 17, 18, 19, 20, 21, 22, 23, 24, 25, 26, 27, 28, 29, 30, 31, 32, 33, 34, 35, 36, 37, 38, 39, 40, 41, 45], [0, 1, 2, 3, 4, 5, 6, 7, 8, 9, 10, 11, 12, 13, 14, 15, 16, 17, 18, 19, 20, 21, 22, 23, 24, 25, 26, 27, 28, 29, 30, 31, 32, 33, 34, 35, 36, 37, 38, 39, 40, 41, 45, 46], [0, 1, 2, 3, 4, 5, 6, 7, 8, 9, 10, 11, 12, 13, 14, 15, 16, 17, 18, 19, 20, 21, 22, 23, 24, 25, 26, 27, 28, 29, 30, 31, 32, 33, 34, 35, 36, 37, 38, 39, 40, 41, 45, 46, 47], [0, 1, 2, 3, 4, 5, 6, 7, 8, 9, 10, 11, 12, 13, 14, 15, 16, 17, 18, 19, 20, 21, 22, 23, 24, 25, 26, 27, 28, 29, 30, 31, 32, 33, 34, 35, 36, 37, 38, 39, 40, 41, 42, 43, 44, 45, 46, 47, 48], [0, 1, 2, 3, 4, 5, 6, 7, 8, 9, 10, 11, 12, 13, 14, 15, 16, 17, 18, 19, 20, 21, 22, 23, 24, 25, 26, 27, 28, 29, 30, 31, 32, 33, 34, 35, 36, 37, 38, 39, 40, 41, 42, 43, 44, 45, 46, 47, 48, 49], [0, 1, 2, 3, 4, 5, 6, 7, 8, 9, 10, 11, 12, 13, 14, 15, 16, 17, 18, 19, 20, 21, 22, 23, 24, 25, 26, 27, 28, 29, 30, 31, 32, 33, 34, 35, 36, 37, 38, 39, 40, 41, 42, 43, 44, 45, 46, 47, 48, 49, 50], [0, 1, 2, 3, 4, 5, 6, 7, 8, 9, 10, 11, 12, 13, 14, 15, 16, 17, 18, 19, 20, 21, 22, 23, 24, 25, 26, 27, 28, 29, 30, 31, 32, 33, 34, 35, 36, 37, 38, 39, 40, 41, 42, 43, 44, 45, 46, 47, 48, 49, 50, 51], [0, 1, 2, 3, 4, 5, 6, 7, 8, 9, 10, 11, 12, 13, 14, 15, 16, 17, 18, 19, 20, 21, 22, 23, 24, 25, 26, 27, 28, 29, 30, 31, 32, 33, 34, 35, 36, 37, 38, 39, 40, 41, 42, 43, 44, 45, 46, 47, 48, 49, 50, 51, 52], [0, 1, 2, 3, 4, 5, 6, 7, 8, 9, 10, 11, 12, 13, 14, 15, 16, 17, 18, 19, 20, 21, 22, 23, 24, 25, 26, 27, 28, 29, 30, 31, 32, 33, 34, 35, 36, 37, 38, 39, 40, 41, 42, 43, 44, 45, 46, 47, 48, 49, 50, 51], [0, 1, 2, 3, 4, 5, 6, 7, 8, 9, 10, 11, 12, 13, 14, 15, 16, 17, 18, 19, 20, 21, 22, 23, 24, 25, 26, 27, 28, 29, 30, 31, 32, 33, 34, 35, 36, 37, 38, 39, 40, 41, 42, 43, 44, 45, 46, 47, 48, 49, 50, 51, 54], [0, 1, 2, 3, 4, 5, 6, 7, 8, 9, 10, 11, 12, 13, 14, 15, 16, 17, 18, 19, 20, 21, 22, 23, 24, 25, 26, 27, 28, 29, 30, 31, 32, 33, 34, 35, 36, 37, 38, 39, 40, 41, 42, 43, 44, 45, 46, 47, 48, 49, 50, 51, 54, 55], [0, 1, 2, 3, 4, 5, 6, 7, 8, 9, 10, 11, 12, 13, 14, 15, 16, 17, 18, 19, 20, 21, 22, 23, 24, 25, 26, 27, 28, 29, 30, 31, 32, 33, 34, 35, 36, 37, 38, 39, 40, 41, 42, 43, 44, 45, 46, 47, 48, 49, 50, 51, 54, 55, 56], [0, 1, 2, 3, 4, 5, 6, 7, 8, 9, 10, 11, 12, 13, 14, 15, 16, 17, 18, 19, 20, 21, 22, 23, 24, 25, 26, 27, 28, 29, 30, 31, 32, 33, 34, 35, 36, 37, 38, 39, 40, 41, 42, 43, 44, 45, 46, 47, 48, 49, 50, 51, 52, 53, 54, 55, 56, 57], [0, 1, 2, 3, 4, 5, 6, 7, 8, 9, 10, 11, 12, 13, 14, 15, 16, 17, 18, 19, 20, 21, 22, 23, 24, 25, 26, 27, 28, 29, 30, 31, 32, 33, 34, 35, 36, 37, 38, 39, 40, 41, 42, 43, 44, 45, 46, 47, 48, 49, 50, 51, 52, 53, 54, 55, 56, 57, 58], [0, 1, 2, 3, 4, 5, 6, 7, 8, 9, 10, 11, 12, 13, 14, 15, 16, 17, 18, 19, 20, 21, 22, 23, 24, 25, 26, 27, 28, 29, 30, 31, 32, 33, 34, 35, 36, 37, 38, 39, 40, 41, 42, 43, 44, 45, 46, 47, 48, 49, 50, 51, 52, 53, 54, 55, 56, 57, 58, 59], [0, 1, 2, 3, 4, 5, 6, 7, 8, 9, 10, 11, 12, 13, 14, 15, 16, 17, 18, 19, 20, 21, 22, 23, 24, 25, 26, 27, 28, 29, 30, 31, 32, 33, 34, 35, 36, 37, 38, 39, 40, 41, 42, 43, 44, 45, 46, 47, 48, 49, 50, 51, 52, 53, 54, 55, 56, 57, 58, 59, 60], [0, 1, 2, 3, 4, 5, 6, 7, 8, 9, 10, 11, 12, 13, 14, 15, 16, 17, 18, 19, 20, 21, 22, 23, 24, 25, 26, 27, 28, 29, 30, 31, 32, 33, 34, 35, 36, 37, 38, 39, 40, 41, 42, 43, 44, 45, 46, 47, 48, 49, 50, 51, 52, 53, 54, 55, 56, 57, 58, 59, 60], [0, 1, 2, 3, 4, 5, 6, 7, 8, 9, 10, 11, 12, 13, 14, 15, 16, 17, 18, 19, 20, 21, 22, 23, 24, 25, 26, 27, 28, 29, 30, 31, 32, 33, 34, 35, 36, 37, 38, 39, 40, 41, 42, 43, 44, 45, 46, 47, 48, 49, 50, 51, 52, 53, 54, 55, 56, 57, 58, 59, 60, 61, 62], [0, 1, 2, 3, 4, 5, 6, 7, 8, 9, 10, 11, 12, 13, 14, 15, 16, 17, 18, 19, 20, 21, 22, 23, 24, 25, 26, 27, 28, 29, 30, 31, 32, 33, 34, 35, 36, 37, 38, 39, 40, 41, 42, 43, 44, 45, 46, 47, 48, 49, 50, 51, 52, 53, 54, 55, 56, 57, 58, 59, 60, 61, 62, 63], [0, 1, 2, 3, 4, 5, 6, 7, 8, 9, 10, 11, 12, 13, 14, 15, 16, 17, 18, 19, 20, 21, 22, 23, 24, 25, 26, 27, 28, 29, 30, 31, 32, 33, 34, 35, 36, 37, 38, 39, 40, 41, 42, 43, 44, 45, 46, 47, 48, 49, 50, 51, 52, 53, 54, 55, 56, 57, 58, 59, 60, 61, 62, 63, 64]] rfl rfl rfl ?_
          refine V.qs 0 rfl rfl (q_move rfl) ?_
          refine V.qs 1 rfl rfl (q_eqlT h1 rfl rfl) ?_
          refine V.qs 2 rfl rfl (q_move rfl) ?_
          refine V.qs 3 rfl rfl (QY.guard rfl rfl rfl (q_move rfl)) ?_
          refine V.qs 5 rfl rfl (QY.guard rfl rfl rfl (q_move rfl)) ?_
          refine V.qs 6 rfl rfl (QY.guard rfl rfl rfl (q_nil rfl)) ?_
          refine V.qs 7 rfl rfl (QY.guard rfl rfl rfl (q_fa fa_57_10 rfl)) ?_
          refine V.qs 8 rfl rfl (QY.guard rfl rfl rfl (q_load Tryz.isAgg4 rfl (rd_chunk (by repeat (first | exact List.Mem.head _ | apply List.Mem.tail)) rfl))) ?_
          refine V.qs 4 rfl rfl (QY.guard rfl rfl rfl (q_cf Tryz.call19 rfl (fun wd hwd => (lane_Found _ lb cb t.s.x)) (by repeat (first | exact Pick.nil | exact Take.here | apply Pick.cons | apply Take.there)))) ?_
          refine V.qs 9 rfl rfl (QY.guard rfl rfl rfl (q_eqbS Tryz.runUnderlying4 rfl rfl)) ?_
          refine V.qs 10 rfl rfl (q_pick_t rfl rfl) ?_
          refine V.qs 11 rfl rfl (q_move rfl) ?_
          refine V.qs 12 rfl rfl (QY.guard rfl rfl rfl (q_move rfl)) ?_
          refine V.qs 15 rfl rfl (QY.guard rfl rfl rfl (q_move rfl)) ?_
          refine V.qs 16 rfl rfl (QY.guard rfl rfl rfl (q_nil rfl)) ?_
          refine V.qs 17 rfl rfl (QY.guard rfl rfl rfl (q_fa fa_57_9 rfl)) ?_
          refine V.qs 18 rfl rfl (QY.guard rfl rfl rfl (q_load Tryz.isAgg3 rfl (rd_chunk (by repeat (first | exact List.Mem.head _ | apply List.Mem.tail)) rfl))) ?_
          refine V.qs 13 rfl rfl (QY.guard rfl rfl rfl (q_cf Tryz.call20 rfl (fun wd hwd => (lane_Who _ lb cb t.s.x)) (by repeat (first | exact Pick.nil | exact Take.here | apply Pick.cons | apply Take.there)))) ?_
          refine V.qs 14 rfl rfl (QY.guard rfl rfl rfl (q_field (fd_65_0 rfl) rfl)) ?_
          refine V.qs 19 rfl rfl (QY.guard rfl rfl rfl (q_eqlS rfl rfl)) ?_
          refine V.qs 20 rfl rfl (q_pick_t rfl rfl) ?_
          refine V.qs 21 rfl rfl (q_move rfl) ?_
          refine V.qs 22 rfl rfl (QY.guard rfl rfl rfl (q_move rfl)) ?_
          refine V.qs 25 rfl rfl (QY.guard rfl rfl rfl (q_move rfl)) ?_
          refine V.qs 26 rfl rfl (QY.guard rfl rfl rfl (q_nil rfl)) ?_
          refine V.qs 27 rfl rfl (QY.guard rfl rfl rfl (q_fa fa_57_0 rfl)) ?_
          refine V.qs 28 rfl rfl (QY.guard rfl rfl rfl (q_loadN (vs := [_, _, _]) Tryz.isAgg51 Tryz.sizeOf51 rfl (rd_range (by repeat (first | exact List.Mem.head _ | apply List.Mem.tail)) rfl))) ?_
          refine V.qs 23 rfl rfl (QY.guard rfl rfl rfl (q_cf Tryz.call21 rfl (fun wd hwd => (lane_At _ lb cb t.s.x)) (by repeat (first | exact Pick.nil | exact Take.here | apply Pick.cons | apply Take.there)))) ?_
          refine V.qs 24 rfl rfl (QY.guard rfl rfl rfl (q_field (fd_54_0 rfl) rfl)) ?_
          refine V.qs 29 rfl rfl (QY.guard rfl rfl rfl (q_eqPlc (p := t.s.x.at_.place) rfl rfl rfl)) ?_
          refine V.qs 30 rfl rfl (q_pick_t rfl rfl) ?_
          refine V.qs 31 rfl rfl (q_move rfl) ?_
          refine V.qs 32 rfl rfl (QY.guard rfl rfl rfl (q_move rfl)) ?_
          refine V.qs 35 rfl rfl (QY.guard rfl rfl rfl (q_move rfl)) ?_
          refine V.qs 36 rfl rfl (QY.guard rfl rfl rfl (q_nil rfl)) ?_
          refine V.qs 37 rfl rfl (QY.guard rfl rfl rfl (q_fa fa_57_5 rfl)) ?_
          refine V.qs 38 rfl rfl (QY.guard rfl rfl rfl (q_load Tryz.isAgg23 rfl (rd_chunk (by repeat (first | exact List.Mem.head _ | apply List.Mem.tail)) rfl))) ?_
          refine V.qs 33 rfl rfl (QY.guard rfl rfl rfl (q_cf Tryz.call22 rfl (fun wd hwd => (lane_Into _ lb cb t.s.x)) (by repeat (first | exact Pick.nil | exact Take.here | apply Pick.cons | apply Take.there)))) ?_
          refine V.qs 34 rfl rfl (QY.guard rfl rfl rfl (q_field (fd_69_0 rfl) rfl)) ?_
          refine V.qs 39 rfl rfl (QY.guard rfl rfl rfl (q_eqlS rfl rfl)) ?_
          refine V.qs 40 rfl rfl (q_pick_t rfl rfl) ?_
          refine V.qs 41 rfl rfl (q_move rfl) ?_
          refine V.qs 42 rfl rfl (QY.guard rfl rfl rfl (q_move rfl)) ?_
          refine V.qs 45 rfl rfl (QY.guard rfl rfl rfl (q_move rfl)) ?_
          refine V.qs 46 rfl rfl (QY.guard rfl rfl rfl (q_nil rfl)) ?_
          refine V.qs 47 rfl rfl (QY.guard rfl rfl rfl (q_fa fa_57_6 rfl)) ?_
          refine V.qs 48 rfl rfl (QY.guard rfl rfl rfl (q_load Tryz.isAgg23 rfl (rd_chunk (by repeat (first | exact List.Mem.head _ | apply List.Mem.tail)) rfl))) ?_
          refine V.qs 43 rfl rfl (QY.guard rfl rfl rfl (q_cf Tryz.call23 rfl (fun wd hwd => (lane_Out _ lb cb t.s.x)) (by repeat (first | exact Pick.nil | exact Take.here | apply Pick.cons | apply Take.there)))) ?_
          refine V.qs 44 rfl rfl (QY.guard rfl rfl rfl (q_field (fd_69_0 rfl) rfl)) ?_
          refine V.qs 49 rfl rfl (QY.guard rfl rfl rfl (q_eqlS rfl rfl)) ?_
          refine V.qs 50 rfl rfl (q_pick_t rfl rfl) ?_
          refine V.qs 51 rfl rfl (q_move rfl) ?_
          refine V.qs 52 rfl rfl (QY.guard rfl rfl rfl (q_move rfl)) ?_
          refine V.qs 54 rfl rfl (QY.guard rfl rfl rfl (q_move rfl)) ?_
          refine V.qs 55 rfl rfl (QY.guard rfl rfl rfl (q_nil rfl)) ?_
          refine V.qs 56 rfl rfl (QY.guard rfl rfl rfl (q_fa fa_57_8 rfl)) ?_
          refine V.qs 57 rfl rfl (QY.guard rfl rfl rfl (q_load Tryz.isAgg23 rfl (rd_chunk (by repeat (first | exact List.Mem.head _ | apply List.Mem.tail)) rfl))) ?_
          refine V.qs 53 rfl rfl (QY.guard rfl rfl rfl (q_cf Tryz.call32 rfl (fun wd hwd => (lane_Val _ lb cb t.s.x)) (by repeat (first | exact Pick.nil | exact Take.here | apply Pick.cons | apply Take.there)))) ?_
          refine V.qs 58 rfl rfl (QY.guard rfl rfl rfl (q_eqlS rfl rfl)) ?_
          refine V.qs 59 rfl rfl (q_pick_t rfl rfl) ?_
          refine V.qs 60 rfl rfl (q_move rfl) ?_
          refine V.qs 61 rfl rfl (QY.guard rfl rfl rfl (q_move rfl)) ?_
          refine V.qs 62 rfl rfl (QY.guard rfl rfl rfl (q_move rfl)) ?_
          refine V.qs 63 rfl rfl (QY.guard rfl rfl rfl (q_cf Tryz.call24 rfl (fun wd hwd => (law15_memory2 _ A' wb _ _ hA' b27 R' v' _ hR' (by omega) hk2' (by rw [← hm']))) (by repeat (first | exact Pick.nil | exact Take.here | apply Pick.cons | apply Take.there)))) ?_
          refine V.qs 64 rfl rfl (q_pick_t rfl rfl) ?_
          refine V.qs 65 rfl rfl (q_assign rfl) ?_
          refine V.fin rfl ?_
          refine W_ret ?_
          refine res1 (c0 := []) rfl rfl (by repeat (first | exact Pick.nil | exact Take.here | apply Pick.cons | apply Take.there)) rfl ?_
          exact ⟨rfl, rfl⟩
        · intro hd
          have h0 : t.st = 0 := by simpa using hd
          refine W_skip ?_
          refine W_reg rfl ?_
          refine O_qs (q_move rfl) ?_
          refine O_qs (q_add (c := ((i + 1 : Nat) : Int)) (w64' (by omega) (by omega)) rfl rfl) ?_
          refine O_qs (q_assign rfl) ?_
          refine O_nil ?_
          refine ⟨((i + 1, t.s), (T', A', ldK k t.ld t.wr.isSome, wrl l t.wr), (RS', R', v', mwr l2 t.wr)), _, ?_, ?_, (by repeat (first | exact Sub.nil | refine Sub.cons rfl ?_)), (by repeat (first | exact Pick.nil | exact Take.here | apply Pick.cons | apply Take.there))⟩
          · exact ⟨hlt, hT', hRS', hxm h0, hA', hR', hk2', by first | omega | (dsimp only; omega), hm'⟩
          · dsimp only; omega
    · intro hc
      refine W_exit ?_
      refine W_seq ?_
      refine W_reg rfl ?_
      refine O_qs (q_move rfl) ?_
      refine O_qs (q_move rfl) ?_
      refine O_qs (q_cf Tryz.call24 rfl (fun wd hwd => (law15_memory2 _ A wb k l hA b27 R v l2 hR (by omega) hk2 hm)) (by repeat (first | exact Pick.nil | exact Take.here | apply Pick.cons | apply Take.there))) ?_
      refine O_qs (q_assign rfl) ?_
      refine O_nil ?_
      refine W_ret ?_
      refine res1 (c0 := []) rfl rfl (by repeat (first | exact Pick.nil | exact Take.here | apply Pick.cons | apply Take.there)) rfl ?_
      exact ⟨rfl, rfl⟩
end Go.Proofs.YtbfplncdmbjjhaaGreat
