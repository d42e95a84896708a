/-
  The law of a load that doesn't hold.
-/
import Derived.Test.YtaphhhnnplljdaaFz0
set_option linter.unusedSimpArgs false
set_option linter.unusedVariables false
namespace Go.Proofs.Ytaphhhnnplljdaa
open Go Go.SL

theorem search_Lane_no (B : World) (sb cb : Nat) (root key : Int) (vals on : Bool) :
    Ctr Try.prog 26 [ptr sb] B [srchA sb cb root key vals (.pointer none) on] (fun u c => u = .pointer none ∧ c = [srchA sb cb root key vals (.pointer none) on]) := by
  refine Ctr.intro (n := 9) Try.func26 rfl Try.ntmps26 (Nat.le_of_ble_eq_true rfl) ?_
  refine W_seq ?_
  refine W_reg rfl ?_
  refine O_qs (q_assign rfl) ?_
  refine O_nil ?_
  refine W_seq ?_
  refine W_seq ?_
  refine W_reg rfl ?_
  refine O_qs (q_move rfl) ?_
  refine O_qs (q_eqnil Try.runUnderlying69 rfl rfl) ?_
  refine O_nil ?_
  refine W_false rfl ?_
  refine W_skip ?_
  refine W_seq ?_
  refine W_reg rfl ?_
  refine O_qs (q_move rfl) ?_
  refine O_qs (q_nil rfl) ?_
  refine O_qs (q_fa fa_138_4 rfl) ?_
  refine O_qs (q_load Try.isAgg75 rfl (rd_chunk (by repeat (first | exact List.Mem.head _ | apply List.Mem.tail)) rfl)) ?_
  refine O_qs (q_assign rfl) ?_
  refine O_nil ?_
  refine W_ret ?_
  refine res1 (c0 := [srchA sb cb root key vals (.pointer none) on]) rfl rfl (by repeat (first | exact Pick.nil | exact Take.here | apply Pick.cons | apply Take.there)) rfl ?_
  exact ⟨rfl, rfl⟩

theorem fmem {l : List (Plc × Int)} {wr : Option (Plc × Int)} {who a aa : Int} (hk : Keys l) (hwr : ∀ p w, wr = some (p, w) → p ≠ epochP ∧ p ≠ cellP who 3 ∧ p ≠ cellP who 7) :
    mem (putw (putw (wrl (putw (putw (putw l epochP 10) (cellP who 3) a) (cellP who 7) aa) wr) (cellP who 3) (mem l (cellP who 3))) (cellP who 7) (mem l (cellP who 7))) = fun q => if q = epochP then 10 else upd (mem l) wr q := by
  have h1 := Keys.putw hk epochP 10
  have h2 := Keys.putw h1 (cellP who 3) a
  have h3 := Keys.putw h2 (cellP who 7) aa
  have hkw : Keys (wrl (putw (putw (putw l epochP 10) (cellP who 3) a) (cellP who 7) aa) wr) := by
    cases wr with
    | none => exact h3
    | some x => exact Keys.putw h3 _ _
  funext q
  have n37 : cellP who 3 ≠ cellP who 7 := by simp [cellP]
  have n3e : cellP who 3 ≠ epochP := by simp [cellP, epochP]
  have n7e : cellP who 7 ≠ epochP := by simp [cellP, epochP]
  rw [mem_putw _ (Keys.putw hkw _ _), mem_putw _ hkw, mem_wrl h3]
  by_cases q7 : q = cellP who 7
  · subst q7
    rw [if_pos rfl, if_neg n7e]
    cases wr with
    | none => rfl
    | some x => exact (upd_miss _ _ (fun e => (hwr x.1 x.2 rfl).2.2 e.symm)).symm
  rw [if_neg q7]
  by_cases q3 : q = cellP who 3
  · subst q3
    rw [if_pos rfl, if_neg n3e]
    cases wr with
    | none => rfl
    | some x => exact (upd_miss _ _ (fun e => (hwr x.1 x.2 rfl).2.1 e.symm)).symm
  rw [if_neg q3]
  have hin : ∀ r, r ≠ cellP who 3 → r ≠ cellP who 7 → mem (putw (putw (putw l epochP 10) (cellP who 3) a) (cellP who 7) aa) r = if r = epochP then 10 else mem l r := by
    intro r r3 r7
    rw [mem_putw _ h2, if_neg r7, mem_putw _ h1, if_neg r3, mem_putw _ hk]
  cases wr with
  | none => exact hin q q3 q7
  | some x =>
    obtain ⟨p, w⟩ := x
    simp only [upd]
    by_cases qp : q = p
    · subst qp
      rw [if_pos rfl, if_neg (hwr q w rfl).1, if_pos rfl]
    · rw [if_neg qp, if_neg qp]
      exact hin q q3 q7

theorem fmem0 {l : List (Plc × Int)} {who a aa : Int} (hk : Keys l) : mem (putw (putw (putw l epochP 10) (cellP who 3) a) (cellP who 7) aa) epochP = 10 ∧ ∀ q, q ≠ epochP → q ≠ cellP who 3 → q ≠ cellP who 7 → mem (putw (putw (putw l epochP 10) (cellP who 3) a) (cellP who 7) aa) q = mem l q := by
  have h1 := Keys.putw hk epochP 10
  have h2 := Keys.putw h1 (cellP who 3) a
  refine ⟨?_, fun q qe q3 q7 => ?_⟩
  · rw [mem_putw _ h2, if_neg (by simp [cellP, epochP]), mem_putw _ h1, if_neg (by simp [cellP, epochP]), mem_putw _ hk, if_pos rfl]
  · rw [mem_putw _ h2, if_neg q7, mem_putw _ h1, if_neg q3, mem_putw _ hk, if_neg qe]

theorem bld_87 {ps : List (Nat × Value)} {cs : List Value} (h : fillL (fun i => some (i * 1, 1)) ((Try.t87.zero.getD undef).cells).toList ps = some cs) : ∀ w, (Instr.build 87 ps.toArray).run Try.prog w = .ok (.agg cs.toArray) w := by
  intro w
  have h := fill_list _ _ _ _ h
  have hz : (zeroValue 87).run Try.prog w = .ok (Try.t87.zero.getD undef) w := by first | exact Try.zeroValue87 w | (rw [Try.zeroValue87]; rfl)
  simp [Instr.build, hz, Try.runUnderlying87, Try.sizeOf41, Result.andThen]
  simp at h
  rw [h]
  rfl

theorem u64_bounds (x : Int) : 0 ≤ IntKind.u64.wrap x ∧ IntKind.u64.wrap x < 18446744073709551616 := by
  simp only [IntKind.wrap, IntKind.bits, IntKind.signed, Bool.false_and, Bool.false_eq_true, if_false]
  omega

theorem law15_SeekFrozen (B : World) (sa : Option Addr) (cap : Nat) (L : List Nd) (key ahead a b : Int) (hb : BaseRow layN B sa L) (hL : L.length ≤ 9223372036854775807) (hw : ∀ x, x ∈ L → NdW x) (ha : Wd a) (hbw : Wd b) :
    Ctr Try.prog 5 [.slice sa L.length cap, .int .u64 key, .int .i64 ahead, .int .u64 a, .int .u64 b] B [] (fun u c => u = .bool true ∧ c = []) := by
  obtain ⟨k, hk, hk60⟩ : ∃ k : Nat, (IntKind.u64.wrap ahead).tmod 60 = (k : Int) ∧ k < 60 := by
    have h := u64_bounds ahead
    obtain ⟨n, hn⟩ := Int.eq_ofNat_of_zero_le h.1
    rw [hn]
    refine ⟨n % 60, ?_, by omega⟩
    show Int.tmod (n : Int) 60 = _
    rw [Int.tmod_eq_emod_of_nonneg (by omega)]
    omega
  refine Ctr.intro (n := 218) Try.func5 rfl Try.ntmps5 (Nat.le_of_ble_eq_true rfl) ?_
  refine W_seq ?_
  refine W_reg rfl ?_
  refine O_qs (q_assign rfl) ?_
  refine O_nil ?_
  refine W_seq ?_
  refine W_seq ?_
  refine W_reg rfl ?_
  refine O_qs (q_cf Try.call18 rfl (fun wd hwd => (law15_awake _)) (by repeat (first | exact Pick.nil | exact Take.here | apply Pick.cons | apply Take.there))) ?_
  refine O_qs (q_not rfl) ?_
  refine O_nil ?_
  refine W_false rfl ?_
  refine W_skip ?_
  refine W_seq ?_
  refine W_reg rfl ?_
  refine O_qs (q_build rfl (bld_40 (cs := [_]) rfl)) ?_
  refine O_es (e_box (cs := #[_]) rfl rfl) ?_
  rintro _ _ ⟨b30, rfl, rfl⟩
  refine O_qs (q_assign rfl) ?_
  refine O_nil ?_
  refine W_seq ?_
  refine W_conv (ctx' := [oraw b30 (.slice none 0 0), []]) rfl ?_
  refine W_reg rfl ?_
  refine O_qs (q_move rfl) ?_
  refine O_es (e_cf Try.call19 rfl (fun wd hwd => (law15_sorted _ sa L.length cap L rfl (hb.still hwd) hL hw)) (by repeat (first | exact Pick.nil | exact Take.here | apply Pick.cons | apply Take.there))) ?_
  rintro _ _ ⟨_, ⟨N, S, hN, hG, rfl⟩, rfl⟩
  refine O_qs (q_assign rfl) ?_
  refine O_nil ?_
  refine W_seq ?_
  have hS40 := hG.le
  obtain ⟨na, nc, rfl⟩ := hN.len
  refine W_reg rfl ?_
  refine O_qs (q_move rfl) ?_
  refine O_qs (q_move rfl) ?_
  refine O_es (e_cf Try.call20 rfl (fun wd hwd => (ref15_Lay _ b30 [] (.slice none 0 0) [] 0 0 9 N _ S hN (Row.nil ..) (by decide) (by omega) (by decide) (by decide))) (by repeat (first | exact Pick.nil | exact Take.here | apply Pick.cons | apply Take.there))) ?_
  rintro _ _ ⟨_, ⟨R1, v1, hR1, rfl, rfl⟩, rfl⟩
  refine O_nil ?_
  refine W_seq ?_
  refine W_reg rfl ?_
  refine O_qs (q_move rfl) ?_
  have hll := lay_len (root := 0) (lv := 0) (e := 9) (L := S) (l := [])
  simp only [List.length_nil] at hll
  refine O_es (e_cf Try.call21 rfl (fun wd hwd => (law15_laid _ b30 R1 v1 _ hR1 (by omega) (lay_keys List.nodup_nil) (lay_wm (by decide) hG.wd Wm.nil))) (by repeat (first | exact Pick.nil | exact Take.here | apply Pick.cons | apply Take.there))) ?_
  rintro _ _ ⟨_, ⟨wb1, A1, k1, l1, hA1, hm1, rfl, rfl⟩, rfl⟩
  refine O_qs (q_assign rfl) ?_
  refine O_nil ?_
  refine W_seq ?_
  refine W_reg rfl ?_
  refine O_qs (q_move rfl) ?_
  refine O_es (e_cf Try.call21 rfl (fun wd hwd => (law15_laid _ b30 R1 v1 _ hR1 (by omega) (lay_keys List.nodup_nil) (lay_wm (by decide) hG.wd Wm.nil))) (by repeat (first | exact Pick.nil | exact Take.here | apply Pick.cons | apply Take.there))) ?_
  rintro _ _ ⟨_, ⟨wb2, A2, k2, l2, hA2, hm2, rfl, rfl⟩, rfl⟩
  refine O_qs (q_assign rfl) ?_
  refine O_nil ?_
  refine W_seq ?_
  refine W_reg rfl ?_
  have hmf1 : mem l1 = mem (lay 0 0 9 S []) := funext hm1
  have hmf2 : mem l1 = mem l2 := hmf1.trans (funext hm2).symm
  have hw0 : Way key (mem l1) 0 [] S := ⟨by rw [hmf1]; exact lay_chain (by decide) (by decide) hG.slots, hG.slots, (fun x hx => by cases hx), hA1.wds.mem⟩
  have hep0 : mem l1 epochP = 9 := by rw [hmf1]; exact lay_epoch
  clear hm1 hm2 hmf1 hll hR1
  refine O_qs (q_cf Try.call23 rfl (fun wd hwd => (law15_conf _)) (by repeat (first | exact Pick.nil | exact Take.here | apply Pick.cons | apply Take.there))) ?_
  refine O_es (e_cf Try.call8 rfl (fun wd hwd => (core_New_ok _ cf15 cf15_ok)) (by repeat (first | exact Pick.nil | exact Take.here | apply Pick.cons | apply Take.there))) ?_
  rintro _ _ ⟨_, ⟨cb1, qb1, Q1, qv1, ring1, qk1, qh1, hq1, rfl, rfl⟩, rfl⟩
  refine O_qs (q_move rfl) ?_
  refine O_es (e_cf Try.call22 rfl (fun wd hwd => (seek_NewSearch _ cb1 0 key false ⟨false, false, newLane ⟨rootP 0, 0⟩ 0 0 false, 0, 0⟩ rfl rfl)) (by repeat (first | exact Pick.nil | exact Take.here | apply Pick.cons | apply Take.there))) ?_
  rintro _ _ ⟨_, ⟨sb1, T1, hT1, rfl, rfl⟩, rfl⟩
  refine O_qs (q_assign rfl) ?_
  refine O_nil ?_
  refine W_seq ?_
  refine W_reg rfl ?_
  refine O_qs (q_cf Try.call23 rfl (fun wd hwd => (law15_conf _)) (by repeat (first | exact Pick.nil | exact Take.here | apply Pick.cons | apply Take.there))) ?_
  refine O_es (e_cf Try.call8 rfl (fun wd hwd => (core_New_ok _ cf15 cf15_ok)) (by repeat (first | exact Pick.nil | exact Take.here | apply Pick.cons | apply Take.there))) ?_
  rintro _ _ ⟨_, ⟨cb2, qb2, Q2, qv2, ring2, qk2, qh2, hq2, rfl, rfl⟩, rfl⟩
  refine O_qs (q_move rfl) ?_
  refine O_es (e_cf Try.call22 rfl (fun wd hwd => (seek_NewSearch _ cb2 0 key false ⟨false, false, newLane ⟨rootP 0, 0⟩ 0 0 false, 0, 0⟩ rfl rfl)) (by repeat (first | exact Pick.nil | exact Take.here | apply Pick.cons | apply Take.there))) ?_
  rintro _ _ ⟨_, ⟨sb2, T2, hT2, rfl, rfl⟩, rfl⟩
  refine O_qs (q_assign rfl) ?_
  refine O_nil ?_
  refine W_seq ?_
  refine W_reg rfl ?_
  refine O_qs (q_move rfl) ?_
  refine O_qs (q_conv (c := IntKind.u64.wrap ahead) Try.runUnderlying3 Try.runUnderlying85 rfl rfl) ?_
  refine O_qs (q_rem (by decide) hk rfl rfl) ?_
  refine O_qs (q_conv (c := (k : Int)) Try.runUnderlying85 Try.runUnderlying3 (w64 (by omega)) rfl) ?_
  refine O_qs (q_assign rfl) ?_
  refine O_nil ?_
  refine W_seq ?_
  refine W_seq ?_
  refine W_reg rfl ?_
  refine O_qs (q_assign rfl) ?_
  refine O_nil ?_
  refine W_block ?_
  refine W_loopD (fun (d : (Nat × SSt) × (Atom × Atom × Count × List (Plc × Int)) × (Atom × Atom × Count × List (Plc × Int)) × List Nd × List Nd) => [(18, .int .i64 (d.1.1 : Int)), (17, .int .i64 (k : Int)), (16, ptr sb2), (15, ptr sb1), (14, ptr wb2), (13, ptr wb1), (4, .int .u64 b), (3, .int .u64 a)]) (fun ((_, s), (T1, A1, _, _), (T2, A2, _, _), _, _) => [T1, coreA cb1 qb1 cf15 s.e ⟨0, 0⟩ s.r, A1, T2, coreA cb2 qb2 cf15 s.e ⟨0, 0⟩ s.r, A2]) (fun d => k - d.1.1) (fun ((i, s), (T1, A1, k1, l1), (T2, A2, k2, l2), L1, R) => i ≤ k ∧ SrchIs T1 sb1 cb1 0 key false s ∧ SrchIs T2 sb2 cb2 0 key false s ∧ PlainIs A1 wb1 l1 k1 ∧ PlainIs A2 wb2 l2 k2 ∧ mem l1 = mem l2 ∧ L1 ++ R = S ∧ SInv 0 key 9 false (mem l1) s L1 R) ((0, ⟨false, false, newLane ⟨rootP 0, 0⟩ 0 0 false, 0, 0⟩), (T1, A1, k1, l1), (T2, A2, k2, l2), [], S) ?_ (by repeat (first | exact Sub.nil | refine Sub.cons rfl ?_)) (by repeat (first | exact Pick.nil | exact Take.here | apply Pick.cons | apply Take.there)) ?_
  · exact ⟨Nat.zero_le _, hT1, hT2, hA1, hA2, hmf2, rfl, hw0, hep0, .inl ⟨rfl, rfl⟩⟩
  · rintro ⟨⟨i, s⟩, ⟨T1, A1, k1, l1⟩, ⟨T2, A2, k2, l2⟩, L1, R⟩ ⟨hi, hT1, hT2, hA1, hA2, hmm, hLR, hI⟩
    dsimp only at hi hT1 hT2 hA1 hA2 hmm hLR hI ⊢
    refine W_seq ?_
    refine W_seq ?_
    refine W_reg rfl ?_
    refine O_qs (q_move rfl) ?_
    refine O_qs (q_move rfl) ?_
    refine O_qs (q_lss rfl rfl) ?_
    refine O_nil ?_
    refine W_cond rfl ?_ ?_
    · intro hc
      have hik : i < k := by simpa using hc
      obtain ⟨L1', R', hLR', hsome, hnx⟩ := sstep hI (by decide)
      have hk1 := hA1.keys
      have hk2 := hA2.keys
      refine W_skip ?_
      refine W_seq ?_
      refine W_block ?_
      refine W_seq ?_
      refine W_reg rfl ?_
      refine O_qs (q_move rfl) ?_
      refine O_qs (q_move rfl) ?_
      refine O_qs (q_mkI mki_35 rfl) ?_
      refine O_es (e_cf Try.call24 rfl (fun wd hwd => (search_Step _ T1 sb1 cb1 qb1 0 key false s cf15 ⟨0, 0⟩ A1 wb1 k1 l1 hT1 hA1)) (by repeat (first | exact Pick.nil | exact Take.here | apply Pick.cons | apply Take.there))) ?_
      rintro _ _ ⟨_, ⟨T1', A1', hT1', hA1', rfl, rfl⟩, rfl⟩
      refine O_qs (q_assign rfl) ?_
      refine O_nil ?_
      refine W_seq ?_
      refine W_seq ?_
      refine W_reg rfl ?_
      refine O_qs (q_move rfl) ?_
      refine O_qs (q_move rfl) ?_
      refine O_qs (q_move rfl) ?_
      refine O_qs (q_mkI mki_35 rfl) ?_
      refine O_es (e_cf Try.call24 rfl (fun wd hwd => (search_Step _ T2 sb2 cb2 qb2 0 key false s cf15 ⟨0, 0⟩ A2 wb2 k2 l2 hT2 hA2)) (by repeat (first | exact Pick.nil | exact Take.here | apply Pick.cons | apply Take.there))) ?_
      rintro _ _ ⟨_, ⟨T2', A2', hT2', hA2', rfl, rfl⟩, rfl⟩
      refine O_qs (q_neq rfl rfl) ?_
      refine O_nil ?_
      rw [← hmm] at hT2' hA2' ⊢
      generalize s.step 0 key false (mem l1) = t at hT1' hA1' hT2' hA2' hsome hnx ⊢
      have hmw : mem (wrl l1 t.wr) = upd (mem l1) t.wr := mem_wrl hk1 t.wr
      have hmw2 : mem (wrl l1 t.wr) = mem (wrl l2 t.wr) := by rw [mem_wrl hk2, hmw, hmm]
      rw [← hmw] at hnx
      refine W_fa rfl ((by simp)) ?_
      refine W_skip ?_
      refine W_seq ?_
      refine W_reg rfl ?_
      refine O_qs (q_move rfl) ?_
      refine O_qs (q_neq rfl rfl) ?_
      refine O_nil ?_
      refine W_cond rfl ?_ ?_
      · intro hc
        refine W_seq ?_
        refine W_reg rfl ?_
        refine O_qs (q_assign rfl) ?_
        refine O_nil ?_
        refine W_ret ?_
        refine res1 (c0 := []) rfl rfl (by repeat (first | exact Pick.nil | exact Take.here | apply Pick.cons | apply Take.there)) rfl ?_
        exact ⟨rfl, rfl⟩
      · intro hc
        have ht0 : t.st = 0 := by simpa using hc
        refine W_skip ?_
        refine W_reg rfl ?_
        refine O_qs (q_move rfl) ?_
        refine O_qs (q_add (c := ((i + 1 : Nat) : Int)) (w64' (by omega) (by omega)) rfl rfl) ?_
        refine O_qs (q_assign rfl) ?_
        refine O_nil ?_
        refine ⟨((i + 1, t.s), (T1', A1', ldK k1 t.ld t.wr.isSome, wrl l1 t.wr), (T2', A2', ldK k2 t.ld t.wr.isSome, wrl l2 t.wr), L1', R'), _, ?_, ?_, (by repeat (first | exact Sub.nil | refine Sub.cons rfl ?_)), (by repeat (first | exact Pick.nil | exact Take.here | apply Pick.cons | apply Take.there))⟩
        · refine ⟨hik, hT1', hT2', hA1', hA2', hmw2, hLR'.trans hLR, ?_⟩
          rcases hnx with ⟨_, h2, _⟩ | ⟨h1, _, _⟩
          · exact h2
          · omega
        · dsimp only; omega
    · intro hc
      refine W_exit ?_
      refine W_seq ?_
      refine W_seq ?_
      rcases hT1 with ⟨hs1, hs2, rfl⟩ | ⟨hsome, hok1, lb1, rfl⟩
      · refine W_reg rfl ?_
        refine O_qs (q_move rfl) ?_
        refine O_qs (q_cf Try.call26 rfl (fun wd hwd => (search_Lane_no _ sb1 cb1 0 key false false)) (by repeat (first | exact Pick.nil | exact Take.here | apply Pick.cons | apply Take.there))) ?_
        refine O_qs (q_eqnil Try.runUnderlying75 rfl rfl) ?_
        refine O_qs (q_move rfl) ?_
        refine O_qs (QY.skip rfl rfl rfl rfl) ?_
        refine O_qs (QY.skip rfl rfl rfl rfl) ?_
        refine O_qs (QY.skip rfl rfl rfl rfl) ?_
        refine O_qs (QY.skip rfl rfl rfl rfl) ?_
        refine O_qs (QY.skip rfl rfl rfl rfl) ?_
        refine O_qs (q_pick_t rfl rfl) ?_
        refine O_nil ?_
        refine W_true rfl ?_
        refine W_seq ?_
        refine W_reg rfl ?_
        refine O_qs (q_assign rfl) ?_
        refine O_nil ?_
        refine W_ret ?_
        refine res1 (c0 := []) rfl rfl (by repeat (first | exact Pick.nil | exact Take.here | apply Pick.cons | apply Take.there)) rfl ?_
        exact ⟨rfl, rfl⟩
      rcases hT2 with ⟨hs1, _⟩ | ⟨_, hok2, lb2, rfl⟩
      · rw [hsome] at hs1; cases hs1
      refine W_conv (ctx' := [srchA sb1 cb1 0 key false (ptr lb1) s.on, laneA lb1 cb1 s.x, coreA cb1 qb1 cf15 s.e ⟨0, 0⟩ s.r, A1, srchA sb2 cb2 0 key false (ptr lb2) s.on, laneA lb2 cb2 s.x, coreA cb2 qb2 cf15 s.e ⟨0, 0⟩ s.r, A2]) rfl ?_
      refine W_reg rfl ?_
      refine O_qs (q_move rfl) ?_
      refine O_qs (q_cf Try.call26 rfl (fun wd hwd => (search_Lane_ok _ sb1 cb1 lb1 0 key false s.on s.x)) (by repeat (first | exact Pick.nil | exact Take.here | apply Pick.cons | apply Take.there))) ?_
      refine O_qs (q_eqnil Try.runUnderlying75 rfl rfl) ?_
      refine O_qs (q_move rfl) ?_
      refine O_qs (QY.guard rfl rfl rfl (q_move rfl)) ?_
      refine O_qs (QY.guard rfl rfl rfl (q_cf Try.call26 rfl (fun wd hwd => (search_Lane_ok _ sb1 cb1 lb1 0 key false s.on s.x)) (by repeat (first | exact Pick.nil | exact Take.here | apply Pick.cons | apply Take.there)))) ?_
      refine O_qs (QY.guard rfl rfl rfl (q_cf Try.call33 rfl (fun wd hwd => (lane_Who _ lb1 cb1 s.x)) (by repeat (first | exact Pick.nil | exact Take.here | apply Pick.cons | apply Take.there)))) ?_
      refine O_qs (QY.guard rfl rfl rfl (q_field (fd_43_0 rfl) rfl)) ?_
      refine O_qs (QY.guard rfl rfl rfl (q_eql rfl rfl)) ?_
      refine O_qs (q_pick_f rfl rfl) ?_
      refine O_nil ?_
      refine W_cond rfl ?_ ?_
      · intro hc
        refine W_seq ?_
        refine W_reg rfl ?_
        refine O_qs (q_assign rfl) ?_
        refine O_nil ?_
        refine W_ret ?_
        refine res1 (c0 := []) rfl rfl (by repeat (first | exact Pick.nil | exact Take.here | apply Pick.cons | apply Take.there)) rfl ?_
        exact ⟨rfl, rfl⟩
      intro hc2
      have hwho : s.x.who.slot ≠ 0 := of_decide_eq_false hc2
      have hep : mem l1 epochP = 9 := hI.ep
      have hep2 : mem l2 epochP = 9 := by rw [← hmm]; exact hep
      have hk1 := hA1.keys
      have hk2 := hA2.keys
      have ha63 := u64_bounds ((BitVec.ofInt 64 a ||| BitVec.ofInt 64 9223372036854775808).toNat : Nat)
      have hb63 := u64_bounds ((BitVec.ofInt 64 b ||| BitVec.ofInt 64 9223372036854775808).toNat : Nat)
      generalize hab : IntKind.u64.wrap ((BitVec.ofInt 64 a ||| BitVec.ofInt 64 9223372036854775808).toNat : Nat) = aa at ha63
      generalize hbb : IntKind.u64.wrap ((BitVec.ofInt 64 b ||| BitVec.ofInt 64 9223372036854775808).toNat : Nat) = bb at hb63
      refine W_skip ?_
      refine W_seq ?_
      refine W_reg rfl ?_
      refine O_qs (q_move rfl) ?_
      refine O_qs (q_cf Try.call26 rfl (fun wd hwd => (search_Lane_ok _ sb1 cb1 lb1 0 key false s.on s.x)) (by repeat (first | exact Pick.nil | exact Take.here | apply Pick.cons | apply Take.there))) ?_
      refine O_qs (q_cf Try.call33 rfl (fun wd hwd => (lane_Who _ lb1 cb1 s.x)) (by repeat (first | exact Pick.nil | exact Take.here | apply Pick.cons | apply Take.there))) ?_
      refine O_qs (q_field (fd_43_0 rfl) rfl) ?_
      refine O_qs (q_assign rfl) ?_
      refine O_nil ?_
      refine W_seq ?_
      refine W_reg rfl ?_
      refine O_qs (q_move rfl) ?_
      refine O_qs (q_cf Try.call34 rfl (fun wd hwd => (place_Of _ s.x.who.slot 3)) (by repeat (first | exact Pick.nil | exact Take.here | apply Pick.cons | apply Take.there))) ?_
      refine O_es (e_alloc (cs := #[.int .i64 0, .int .i64 0, .int .i64 0]) Try.zeroValue79 rfl) ?_
      rintro _ _ ⟨b21, rfl, rfl⟩
      refine O_en (e_storeN (vs := [_, _, _]) Try.sizeOf79 rfl rfl rfl (by repeat (first | exact Upd.here | apply Upd.there)) rfl (by simp only [setAll, List.setIfInBounds_toArray, List.set_cons_succ, List.set_cons_zero, Nat.reduceAdd, Nat.zero_add] <;> rfl)) ?_
      rintro _ _ ⟨rfl, rfl⟩
      refine O_nil ?_
      refine W_seq ?_
      refine W_reg rfl ?_
      refine O_qs (q_move rfl) ?_
      refine O_qs (q_cf Try.call32 rfl (fun wd hwd => (place_Link _ s.x.who.slot 0 (by decide))) (by repeat (first | exact Pick.nil | exact Take.here | apply Pick.cons | apply Take.there))) ?_
      refine O_es (e_alloc (cs := #[.int .i64 0, .int .i64 0, .int .i64 0]) Try.zeroValue79 rfl) ?_
      rintro _ _ ⟨b22, rfl, rfl⟩
      refine O_en (e_storeN (vs := [_, _, _]) Try.sizeOf79 rfl rfl rfl (by repeat (first | exact Upd.here | apply Upd.there)) rfl (by simp only [setAll, List.setIfInBounds_toArray, List.set_cons_succ, List.set_cons_zero, Nat.reduceAdd, Nat.zero_add] <;> rfl)) ?_
      rintro _ _ ⟨rfl, rfl⟩
      refine O_nil ?_
      refine W_seq ?_
      refine W_draw [[], [], [0, 1], [], [], [0, 1, 2, 3, 4], [0, 1, 2, 3, 4, 5], [], [0, 1, 2, 3, 4, 5, 6, 7]] rfl rfl rfl ?_
      refine V.qs 0 rfl rfl (q_move rfl) ?_
      refine V.qs 1 rfl rfl (q_loadN (vs := [_, _, _]) Try.isAgg79 Try.sizeOf79 rfl (rd_range (by repeat (first | exact List.Mem.head _ | apply List.Mem.tail)) rfl)) ?_
      refine V.qs 3 rfl rfl (q_move rfl) ?_
      refine V.qs 4 rfl rfl (q_loadN (vs := [_, _, _]) Try.isAgg79 Try.sizeOf79 rfl (rd_range (by repeat (first | exact List.Mem.head _ | apply List.Mem.tail)) rfl)) ?_
      refine V.qs 2 rfl rfl (q_cf Try.call30 rfl (fun wd hwd => (world_Peek _ A1 wb1 k1 l1 (cellP s.x.who.slot 3) hA1)) (by repeat (first | exact Pick.nil | exact Take.here | apply Pick.cons | apply Take.there))) ?_
      refine V.qs 5 rfl rfl (q_cf Try.call30 rfl (fun wd hwd => (world_Peek _ A1 wb1 k1 l1 (cellP s.x.who.slot 7) hA1)) (by repeat (first | exact Pick.nil | exact Take.here | apply Pick.cons | apply Take.there))) ?_
      refine V.qs 6 rfl rfl (q_build rfl (bld_87 (cs := [_, _]) rfl)) ?_
      refine V.e1s 7 [6, 5, 2, 4, 3, 1, 0] rfl rfl rfl (e_alloc (cs := #[.int .u64 0, .int .u64 0]) Try.zeroValue87 rfl) ?_
      rintro _ _ ⟨b23, rfl, rfl⟩
      refine ⟨st rfl rfl (q_build rfl (bld_87 (cs := [_, _]) rfl)) (st rfl rfl (q_cf Try.call30 rfl (fun wd hwd => (world_Peek _ A1 wb1 k1 l1 (cellP s.x.who.slot 7) hA1)) (by repeat (first | exact Pick.nil | exact Take.here | apply Pick.cons | apply Take.there))) (st rfl rfl (q_cf Try.call30 rfl (fun wd hwd => (world_Peek _ A1 wb1 k1 l1 (cellP s.x.who.slot 3) hA1)) (by repeat (first | exact Pick.nil | exact Take.here | apply Pick.cons | apply Take.there))) (st rfl rfl (q_loadN (vs := [_, _, _]) Try.isAgg79 Try.sizeOf79 rfl (rd_range (by repeat (first | exact List.Mem.head _ | apply List.Mem.tail)) rfl)) (st rfl rfl (q_move rfl) (st rfl rfl (q_loadN (vs := [_, _, _]) Try.isAgg79 Try.sizeOf79 rfl (rd_range (by repeat (first | exact List.Mem.head _ | apply List.Mem.tail)) rfl)) (st rfl rfl (q_move rfl) (st_nil))))))), ?_⟩
      refine V.e1n 8 [] rfl rfl rfl (e_storeN (vs := [_, _]) Try.sizeOf87 rfl rfl rfl (by repeat (first | exact Upd.here | apply Upd.there)) rfl (by simp only [setAll, List.setIfInBounds_toArray, List.set_cons_succ, List.set_cons_zero, Nat.reduceAdd, Nat.zero_add] <;> rfl)) ?_
      rintro _ _ ⟨rfl, rfl⟩
      refine ⟨st_nil, ?_⟩
      refine V.fin rfl ?_
      refine W_seq ?_
      refine W_reg rfl ?_
      refine O_qs (q_move rfl) ?_
      refine O_qs (q_cf Try.call36 rfl (fun wd hwd => (place_Epoch _)) (by repeat (first | exact Pick.nil | exact Take.here | apply Pick.cons | apply Take.there))) ?_
      refine O_qs (q_build rfl (bld_91 (cs := [_, _, _, _]) rfl)) ?_
      refine O_es (e_cf Try.call35 rfl (fun wd hwd => (world_Add _ A1 wb1 k1 l1 ⟨epochP, 0⟩ 1 hA1)) (by repeat (first | exact Pick.nil | exact Take.here | apply Pick.cons | apply Take.there))) ?_
      rintro _ _ ⟨_, ⟨A1a, hA1a, rfl, rfl⟩, rfl⟩
      refine O_nil ?_
      refine W_seq ?_
      refine W_reg rfl ?_
      refine O_qs (q_move rfl) ?_
      refine O_qs (q_cf Try.call36 rfl (fun wd hwd => (place_Epoch _)) (by repeat (first | exact Pick.nil | exact Take.here | apply Pick.cons | apply Take.there))) ?_
      refine O_qs (q_build rfl (bld_91 (cs := [_, _, _, _]) rfl)) ?_
      refine O_es (e_cf Try.call35 rfl (fun wd hwd => (world_Add _ A2 wb2 k2 l2 ⟨epochP, 0⟩ 1 hA2)) (by repeat (first | exact Pick.nil | exact Take.here | apply Pick.cons | apply Take.there))) ?_
      rintro _ _ ⟨_, ⟨A2a, hA2a, rfl, rfl⟩, rfl⟩
      refine O_nil ?_
      refine W_seq ?_
      refine W_reg rfl ?_
      refine O_qs (q_move rfl) ?_
      refine O_qs (q_loadN (vs := [_, _, _]) Try.isAgg79 Try.sizeOf79 rfl (rd_range (by repeat (first | exact List.Mem.head _ | apply List.Mem.tail)) rfl)) ?_
      refine O_qs (q_build rfl (bld_91 (cs := [_, _, _, _]) rfl)) ?_
      refine O_qs (q_move rfl) ?_
      refine O_qs (q_build rfl (bld_45 (cs := [_, _, _]) rfl)) ?_
      have e1 : IntKind.u64.wrap (mem l1 epochP + 1) = 10 := by rw [hep]; decide
      have e2 : IntKind.u64.wrap (mem l2 epochP + 1) = 10 := by rw [hep2]; decide
      rw [show (At.mk epochP 0).place = epochP from rfl, e1] at hA1a
      rw [show (At.mk epochP 0).place = epochP from rfl, e2] at hA2a
      refine O_es (e_cf Try.call37 rfl (fun wd hwd => (world_Store _ A1a wb1 _ _ ⟨cellP s.x.who.slot 3, 0⟩ ⟨a, 0, false⟩ ha hA1a)) (by repeat (first | exact Pick.nil | exact Take.here | apply Pick.cons | apply Take.there))) ?_
      rintro _ _ ⟨_, ⟨A1b, hA1b, rfl, rfl⟩, rfl⟩
      refine O_nil ?_
      refine W_seq ?_
      refine W_reg rfl ?_
      refine O_qs (q_move rfl) ?_
      refine O_qs (q_loadN (vs := [_, _, _]) Try.isAgg79 Try.sizeOf79 rfl (rd_range (by repeat (first | exact List.Mem.head _ | apply List.Mem.tail)) rfl)) ?_
      refine O_qs (q_build rfl (bld_91 (cs := [_, _, _, _]) rfl)) ?_
      refine O_qs (q_move rfl) ?_
      refine O_qs (q_build rfl (bld_45 (cs := [_, _, _]) rfl)) ?_
      refine O_es (e_cf Try.call37 rfl (fun wd hwd => (world_Store _ A2a wb2 _ _ ⟨cellP s.x.who.slot 3, 0⟩ ⟨b, 0, false⟩ hbw hA2a)) (by repeat (first | exact Pick.nil | exact Take.here | apply Pick.cons | apply Take.there))) ?_
      rintro _ _ ⟨_, ⟨A2b, hA2b, rfl, rfl⟩, rfl⟩
      refine O_nil ?_
      refine W_seq ?_
      refine W_reg rfl ?_
      refine O_qs (q_move rfl) ?_
      refine O_qs (q_loadN (vs := [_, _, _]) Try.isAgg79 Try.sizeOf79 rfl (rd_range (by repeat (first | exact List.Mem.head _ | apply List.Mem.tail)) rfl)) ?_
      refine O_qs (q_build rfl (bld_91 (cs := [_, _, _, _]) rfl)) ?_
      refine O_qs (q_move rfl) ?_
      refine O_qs (q_orI (c := aa) hab rfl rfl) ?_
      refine O_qs (q_build rfl (bld_45 (cs := [_, _, _]) rfl)) ?_
      refine O_es (e_cf Try.call37 rfl (fun wd hwd => (world_Store _ A1b wb1 _ _ ⟨cellP s.x.who.slot 7, 0⟩ ⟨aa, 0, false⟩ ha63 hA1b)) (by repeat (first | exact Pick.nil | exact Take.here | apply Pick.cons | apply Take.there))) ?_
      rintro _ _ ⟨_, ⟨A1c, hA1c, rfl, rfl⟩, rfl⟩
      refine O_nil ?_
      refine W_seq ?_
      refine W_reg rfl ?_
      refine O_qs (q_move rfl) ?_
      refine O_qs (q_loadN (vs := [_, _, _]) Try.isAgg79 Try.sizeOf79 rfl (rd_range (by repeat (first | exact List.Mem.head _ | apply List.Mem.tail)) rfl)) ?_
      refine O_qs (q_build rfl (bld_91 (cs := [_, _, _, _]) rfl)) ?_
      refine O_qs (q_move rfl) ?_
      refine O_qs (q_orI (c := bb) hbb rfl rfl) ?_
      refine O_qs (q_build rfl (bld_45 (cs := [_, _, _]) rfl)) ?_
      refine O_es (e_cf Try.call37 rfl (fun wd hwd => (world_Store _ A2b wb2 _ _ ⟨cellP s.x.who.slot 7, 0⟩ ⟨bb, 0, false⟩ hb63 hA2b)) (by repeat (first | exact Pick.nil | exact Take.here | apply Pick.cons | apply Take.there))) ?_
      rintro _ _ ⟨_, ⟨A2c, hA2c, rfl, rfl⟩, rfl⟩
      refine O_nil ?_
      refine W_seq ?_
      have hd1 := fmem0 (l := l1) (who := s.x.who.slot) (a := a) (aa := aa) hk1
      have hd2 := fmem0 (l := l2) (who := s.x.who.slot) (a := b) (aa := bb) hk2
      have hlen40 : (L1 ++ R).length ≤ 40 := by rw [hLR]; exact hS40
      have hD := fdist hI hsome hlen40 (fun _ => hwho) hd1.1 hd2.1 hd1.2 (by rw [hmm]; exact hd2.2)
      have hS1 : SrchIs (srchA sb1 cb1 0 key false (ptr lb1) s.on ++ laneA lb1 cb1 s.x) sb1 cb1 0 key false s := .inr ⟨hsome, hok1, lb1, rfl⟩
      have hS2 : SrchIs (srchA sb2 cb2 0 key false (ptr lb2) s.on ++ laneA lb2 cb2 s.x) sb2 cb2 0 key false s := .inr ⟨hsome, hok2, lb2, rfl⟩
      refine W_weak (env' := [(13, ptr wb1), (14, ptr wb2), (15, ptr sb1), (16, ptr sb2), (21, ptr b21), (22, ptr b22), (23, ptr b23)]) (ctx' := [A2c, A1c, [(b23, .cells #[.int .u64 (mem l1 (cellP s.x.who.slot 3)), .int .u64 (mem l1 (cellP s.x.who.slot 7))] 87 (0, 0))], [(b22, .cells #[.int .i64 5, .int .i64 s.x.who.slot, .int .i64 7] 79 (0, 0))], [(b21, .cells #[.int .i64 5, .int .i64 s.x.who.slot, .int .i64 3] 79 (0, 0))], srchA sb1 cb1 0 key false (ptr lb1) s.on, laneA lb1 cb1 s.x, coreA cb1 qb1 cf15 s.e ⟨0, 0⟩ s.r, srchA sb2 cb2 0 key false (ptr lb2) s.on, laneA lb2 cb2 s.x, coreA cb2 qb2 cf15 s.e ⟨0, 0⟩ s.r]) (by repeat (first | exact Sub.nil | refine Sub.cons rfl ?_)) (by repeat (first | exact Pick.nil | exact Take.here | apply Pick.cons | apply Take.there)) ?_
      refine W_conv (ctx' := [A2c, A1c, [(b23, .cells #[.int .u64 (mem l1 (cellP s.x.who.slot 3)), .int .u64 (mem l1 (cellP s.x.who.slot 7))] 87 (0, 0))], [(b22, .cells #[.int .i64 5, .int .i64 s.x.who.slot, .int .i64 7] 79 (0, 0))], [(b21, .cells #[.int .i64 5, .int .i64 s.x.who.slot, .int .i64 3] 79 (0, 0))], srchA sb1 cb1 0 key false (ptr lb1) s.on ++ laneA lb1 cb1 s.x, coreA cb1 qb1 cf15 s.e ⟨0, 0⟩ s.r, srchA sb2 cb2 0 key false (ptr lb2) s.on ++ laneA lb2 cb2 s.x, coreA cb2 qb2 cf15 s.e ⟨0, 0⟩ s.r]) rfl ?_
      refine W_reg rfl ?_
      refine O_qs (q_move rfl) ?_
      refine O_qs (q_move rfl) ?_
      refine O_qs (q_mkI mki_35 rfl) ?_
      refine O_es (e_cf Try.call24 rfl (fun wd hwd => (search_Step _ _ sb1 cb1 qb1 0 key false s cf15 ⟨0, 0⟩ A1c wb1 _ _ hS1 hA1c)) (by repeat (first | exact Pick.nil | exact Take.here | apply Pick.cons | apply Take.there))) ?_
      rintro _ _ ⟨_, ⟨T1', A1', hT1', hA1', rfl, rfl⟩, rfl⟩
      refine O_qs (q_assign rfl) ?_
      refine O_nil ?_
      refine W_seq ?_
      refine W_reg rfl ?_
      refine O_qs (q_move rfl) ?_
      refine O_qs (q_move rfl) ?_
      refine O_qs (q_mkI mki_35 rfl) ?_
      refine O_es (e_cf Try.call24 rfl (fun wd hwd => (search_Step _ _ sb2 cb2 qb2 0 key false s cf15 ⟨0, 0⟩ A2c wb2 _ _ hS2 hA2c)) (by repeat (first | exact Pick.nil | exact Take.here | apply Pick.cons | apply Take.there))) ?_
      rintro _ _ ⟨_, ⟨T2', A2', hT2', hA2', rfl, rfl⟩, rfl⟩
      refine O_qs (q_assign rfl) ?_
      refine O_nil ?_
      refine W_seq ?_
      refine W_reg rfl ?_
      refine O_qs (q_move rfl) ?_
      refine O_qs (q_loadN (vs := [_, _, _]) Try.isAgg79 Try.sizeOf79 rfl (rd_range (by repeat (first | exact List.Mem.head _ | apply List.Mem.tail)) rfl)) ?_
      refine O_qs (q_build rfl (bld_91 (cs := [_, _, _, _]) rfl)) ?_
      refine O_qs (q_iarr Try.runUnderlying87 Try.sizeOf41 rfl rfl (by omega)) ?_
      refine O_qs (q_load Try.isAgg41 rfl (rd_chunk (by repeat (first | exact List.Mem.head _ | apply List.Mem.tail)) rfl)) ?_
      refine O_qs (q_build rfl (bld_45 (cs := [_, _, _]) rfl)) ?_
      obtain ⟨hD1, hD2, hD3, hD4⟩ := hD
      have hf1 := fmem (l := l1) (a := a) (aa := aa) hk1 hD3
      have hD5 := hD3
      rw [hD2] at hD5
      have hf2 := fmem (l := l2) (a := b) (aa := bb) hk2 hD5
      rw [← hmm] at hf2
      rw [← hD2] at hf2 hA2'
      rw [← hD1] 
      simp only [show (At.mk (cellP s.x.who.slot 3) 0).place = cellP s.x.who.slot 3 from rfl, show (At.mk (cellP s.x.who.slot 7) 0).place = cellP s.x.who.slot 7 from rfl] at hT1' hA1' hT2' hA2' ⊢
      generalize SSt.step 0 key false s (mem (putw (putw (putw l1 epochP 10) (cellP s.x.who.slot 3) a) (cellP s.x.who.slot 7) aa)) = t1 at *
      generalize SSt.step 0 key false s (mem (putw (putw (putw l2 epochP 10) (cellP s.x.who.slot 3) b) (cellP s.x.who.slot 7) bb)) = t2 at *
      have b13 := hA1.wds.mem (cellP s.x.who.slot 3)
      have b17 := hA1.wds.mem (cellP s.x.who.slot 7)
      refine O_es (e_cf Try.call37 rfl (fun wd hwd => (world_Store _ A1' wb1 _ _ ⟨cellP s.x.who.slot 3, 0⟩ ⟨mem l1 (cellP s.x.who.slot 3), 0, false⟩ b13 hA1')) (by repeat (first | exact Pick.nil | exact Take.here | apply Pick.cons | apply Take.there))) ?_
      rintro _ _ ⟨_, ⟨A1d, hA1d, rfl, rfl⟩, rfl⟩
      refine O_nil ?_
      refine W_seq ?_
      refine W_reg rfl ?_
      refine O_qs (q_move rfl) ?_
      refine O_qs (q_loadN (vs := [_, _, _]) Try.isAgg79 Try.sizeOf79 rfl (rd_range (by repeat (first | exact List.Mem.head _ | apply List.Mem.tail)) rfl)) ?_
      refine O_qs (q_build rfl (bld_91 (cs := [_, _, _, _]) rfl)) ?_
      refine O_qs (q_iarr Try.runUnderlying87 Try.sizeOf41 rfl rfl (by omega)) ?_
      refine O_qs (q_load Try.isAgg41 rfl (rd_chunk (by repeat (first | exact List.Mem.head _ | apply List.Mem.tail)) rfl)) ?_
      refine O_qs (q_build rfl (bld_45 (cs := [_, _, _]) rfl)) ?_
      refine O_es (e_cf Try.call37 rfl (fun wd hwd => (world_Store _ A2' wb2 _ _ ⟨cellP s.x.who.slot 3, 0⟩ ⟨mem l1 (cellP s.x.who.slot 3), 0, false⟩ b13 hA2')) (by repeat (first | exact Pick.nil | exact Take.here | apply Pick.cons | apply Take.there))) ?_
      rintro _ _ ⟨_, ⟨A2d, hA2d, rfl, rfl⟩, rfl⟩
      refine O_nil ?_
      refine W_seq ?_
      refine W_reg rfl ?_
      refine O_qs (q_move rfl) ?_
      refine O_qs (q_loadN (vs := [_, _, _]) Try.isAgg79 Try.sizeOf79 rfl (rd_range (by repeat (first | exact List.Mem.head _ | apply List.Mem.tail)) rfl)) ?_
      refine O_qs (q_build rfl (bld_91 (cs := [_, _, _, _]) rfl)) ?_
      refine O_qs (q_iarr Try.runUnderlying87 Try.sizeOf41 rfl rfl (by omega)) ?_
      refine O_qs (q_load Try.isAgg41 rfl (rd_chunk (by repeat (first | exact List.Mem.head _ | apply List.Mem.tail)) rfl)) ?_
      refine O_qs (q_build rfl (bld_45 (cs := [_, _, _]) rfl)) ?_
      refine O_es (e_cf Try.call37 rfl (fun wd hwd => (world_Store _ A1d wb1 _ _ ⟨cellP s.x.who.slot 7, 0⟩ ⟨mem l1 (cellP s.x.who.slot 7), 0, false⟩ b17 hA1d)) (by repeat (first | exact Pick.nil | exact Take.here | apply Pick.cons | apply Take.there))) ?_
      rintro _ _ ⟨_, ⟨A1e, hA1e, rfl, rfl⟩, rfl⟩
      refine O_nil ?_
      refine W_seq ?_
      refine W_reg rfl ?_
      refine O_qs (q_move rfl) ?_
      refine O_qs (q_loadN (vs := [_, _, _]) Try.isAgg79 Try.sizeOf79 rfl (rd_range (by repeat (first | exact List.Mem.head _ | apply List.Mem.tail)) rfl)) ?_
      refine O_qs (q_build rfl (bld_91 (cs := [_, _, _, _]) rfl)) ?_
      refine O_qs (q_iarr Try.runUnderlying87 Try.sizeOf41 rfl rfl (by omega)) ?_
      refine O_qs (q_load Try.isAgg41 rfl (rd_chunk (by repeat (first | exact List.Mem.head _ | apply List.Mem.tail)) rfl)) ?_
      refine O_qs (q_build rfl (bld_45 (cs := [_, _, _]) rfl)) ?_
      refine O_es (e_cf Try.call37 rfl (fun wd hwd => (world_Store _ A2d wb2 _ _ ⟨cellP s.x.who.slot 7, 0⟩ ⟨mem l1 (cellP s.x.who.slot 7), 0, false⟩ b17 hA2d)) (by repeat (first | exact Pick.nil | exact Take.here | apply Pick.cons | apply Take.there))) ?_
      rintro _ _ ⟨_, ⟨A2e, hA2e, rfl, rfl⟩, rfl⟩
      refine O_nil ?_
      refine W_seq ?_
      refine W_seq ?_
      refine W_reg rfl ?_
      refine O_qs (q_assign rfl) ?_
      refine O_nil ?_
      refine W_block ?_
      obtain ⟨lx, kx, hAx, hmx⟩ : ∃ lx kx, PlainIs A1e wb1 lx kx ∧ mem lx = fun q => if q = epochP then 10 else upd (mem l1) t1.wr q := ⟨_, _, hA1e, hf1⟩
      obtain ⟨ly, ky, hAy, hmy⟩ : ∃ ly ky, PlainIs A2e wb2 ly ky ∧ mem ly = fun q => if q = epochP then 10 else upd (mem l1) t1.wr q := ⟨_, _, hA2e, hf2⟩
      have hmxy : mem lx = mem ly := hmx.trans hmy.symm
      have hD6 := hD4 (mem lx) (by rw [hmx]; simp) (fun q hq => by rw [hmx]; simp [hq])
      clear hf1 hf2 hD4 hA1e hA2e hmx hmy hD3 hD5 hd1 hd2 hD2
      obtain ⟨z1, z2, hz1, hz2, hz12⟩ : ∃ z1 z2, t1.st = z1 ∧ t2.st = z2 ∧ z1 = z2 := ⟨_, _, rfl, rfl, hD1⟩
      refine W_loopD (fun (d : (Nat × Int × SSt × SSt × Nat) × (Atom × Atom × Count × List (Plc × Int)) × (Atom × Atom × Count × List (Plc × Int))) => [(26, .int .i64 (d.1.1 : Int)), (25, .int .i64 d.1.2.1), (24, .int .i64 d.1.2.1), (16, ptr sb2), (15, ptr sb1), (14, ptr wb2), (13, ptr wb1)]) (fun ((_, _, s1, s2, _), (T1, A1, _, _), (T2, A2, _, _)) => [T1, coreA cb1 qb1 cf15 s1.e ⟨0, 0⟩ s1.r, A1, T2, coreA cb2 qb2 cf15 s2.e ⟨0, 0⟩ s2.r, A2]) (fun d => if d.1.2.1 = 0 then d.1.2.2.2.2 + 1 else 0) (fun ((i, st, s1, s2, n), (T1, A1, k1, l1), (T2, A2, k2, l2)) => i + n ≤ 400 ∧ SrchIs T1 sb1 cb1 0 key false s1 ∧ SrchIs T2 sb2 cb2 0 key false s2 ∧ PlainIs A1 wb1 l1 k1 ∧ PlainIs A2 wb2 l2 k2 ∧ mem l1 = mem l2 ∧ (st = 0 ∧ FInv key (mem l1) s1 s2 n ∨ st = 1 ∧ s1 = s2 ∧ s1.some = true)) ((0, t1.st, t1.s, t2.s, 400), (T1', A1e, kx, lx), (T2', A2e, ky, ly)) ?_ (by repeat (first | exact Sub.nil | refine Sub.cons rfl ?_)) (by repeat (first | exact Pick.nil | exact Take.here | apply Pick.cons | apply Take.there)) ?_
      · exact ⟨by omega, hT1', hT2', hAx, hAy, hmxy, hD6⟩
      · clear hD6 hAx hAy hmxy hT1' hT2' hS1 hS2 hA1 hA2 hI hmm hok1 hok2 hsome hwho hc2 hep hep2
        rintro ⟨⟨i, st, s1, s2, n⟩, ⟨T1, A1, k1, l1⟩, ⟨T2, A2, k2, l2⟩⟩ ⟨hin, hT1, hT2, hA1, hA2, hmm, hF⟩
        dsimp only at hin hT1 hT2 hA1 hA2 hmm hF ⊢
        refine W_seq ?_
        refine W_seq ?_
        refine W_reg rfl ?_
        refine O_qs (q_move rfl) ?_
        refine O_qs (q_lss rfl rfl) ?_
        refine O_qs (q_move rfl) ?_
        refine O_qs (QY.cond0 rfl rfl rfl (fun H => q_move rfl)) ?_
        refine O_qs (QY.cond0 rfl rfl rfl (fun H => q_eql (gvh rfl H) rfl)) ?_
        refine O_qs (q_and rfl rfl rfl) ?_
        refine O_qs (q_move rfl) ?_
        refine O_qs (QY.cond0 rfl rfl rfl (fun H => q_move rfl)) ?_
        refine O_qs (QY.cond0 rfl rfl rfl (fun H => q_move rfl)) ?_
        refine O_qs (QY.cond0 rfl rfl rfl (fun H => q_eql (gvh rfl H) (gvh rfl H))) ?_
        refine O_qs (q_and rfl rfl rfl) ?_
        refine O_nil ?_
        refine W_cond rfl ?_ ?_
        · intro hc
          have hst : st = 0 := by simp at hc; exact hc.2
          have hF' : FInv key (mem l1) s1 s2 n := by
            rcases hF with ⟨_, h⟩ | ⟨h, _⟩
            · exact h
            · omega
          clear hF
          obtain ⟨hn1, hq1, hq2, hnx⟩ := fstep hF'
          have hk1 := hA1.keys
          have hk2 := hA2.keys
          refine W_skip ?_
          refine W_seq ?_
          refine W_block ?_
          refine W_seq ?_
          refine W_reg rfl ?_
          refine O_qs (q_move rfl) ?_
          refine O_qs (q_move rfl) ?_
          refine O_qs (q_mkI mki_35 rfl) ?_
          refine O_es (e_cf Try.call24 rfl (fun wd hwd => (search_Step _ T1 sb1 cb1 qb1 0 key false s1 cf15 ⟨0, 0⟩ A1 wb1 k1 l1 hT1 hA1)) (by repeat (first | exact Pick.nil | exact Take.here | apply Pick.cons | apply Take.there))) ?_
          rintro _ _ ⟨_, ⟨T1', A1', hT1', hA1', rfl, rfl⟩, rfl⟩
          refine O_qs (q_assign rfl) ?_
          refine O_nil ?_
          refine W_reg rfl ?_
          refine O_qs (q_move rfl) ?_
          refine O_qs (q_move rfl) ?_
          refine O_qs (q_mkI mki_35 rfl) ?_
          refine O_es (e_cf Try.call24 rfl (fun wd hwd => (search_Step _ T2 sb2 cb2 qb2 0 key false s2 cf15 ⟨0, 0⟩ A2 wb2 k2 l2 hT2 hA2)) (by repeat (first | exact Pick.nil | exact Take.here | apply Pick.cons | apply Take.there))) ?_
          rintro _ _ ⟨_, ⟨T2', A2', hT2', hA2', rfl, rfl⟩, rfl⟩
          refine O_qs (q_assign rfl) ?_
          refine O_nil ?_
          refine W_reg rfl ?_
          refine O_qs (q_move rfl) ?_
          refine O_qs (q_add (c := ((i + 1 : Nat) : Int)) (w64' (by omega) (by omega)) rfl rfl) ?_
          refine O_qs (q_assign rfl) ?_
          refine O_nil ?_
          rw [← hmm] at hT2' hA2' ⊢
          generalize s1.step 0 key false (mem l1) = t1 at hT1' hA1' hq1 hq2 hnx ⊢
          generalize s2.step 0 key false (mem l1) = t2 at hT2' hA2' hq1 hq2 hnx ⊢
          have hmw : mem (wrl l1 t1.wr) = upd (mem l1) t1.wr := mem_wrl hk1 t1.wr
          have hmw2 : mem (wrl l1 t1.wr) = mem (wrl l2 t2.wr) := by rw [mem_wrl hk2, hmw, hmm, hq2]
          rw [← hmw] at hnx
          rw [← hq1]
          refine ⟨((i + 1, t1.st, t1.s, t2.s, n - 1), (T1', A1', ldK k1 t1.ld t1.wr.isSome, wrl l1 t1.wr), (T2', A2', ldK k2 t2.ld t2.wr.isSome, wrl l2 t2.wr)), _, ?_, ?_, (by repeat (first | exact Sub.nil | refine Sub.cons rfl ?_)), (by repeat (first | exact Pick.nil | exact Take.here | apply Pick.cons | apply Take.there))⟩
          · exact ⟨by dsimp only; omega, hT1', hT2', hA1', hA2', hmw2, hnx⟩
          · dsimp only
            rw [if_pos hst]
            split <;> omega
        · intro hc
          obtain ⟨rfl, rfl, hsome⟩ : st = 1 ∧ s1 = s2 ∧ s1.some = true := by
            rcases hF with ⟨h1, h2⟩ | h
            · exfalso
              have := (fstep h2).1
              subst h1
              simp at hc
              omega
            · exact h
          clear hF
          obtain ⟨hok1, lb1, rfl⟩ := hT1.found hsome
          obtain ⟨hok2, lb2, rfl⟩ := hT2.found hsome
          refine W_exit ?_
          refine W_seq ?_
          refine W_conv (ctx' := [srchA sb1 cb1 0 key false (ptr lb1) s1.on, laneA lb1 cb1 s1.x, coreA cb1 qb1 cf15 s1.e ⟨0, 0⟩ s1.r, A1, srchA sb2 cb2 0 key false (ptr lb2) s1.on, laneA lb2 cb2 s1.x, coreA cb2 qb2 cf15 s1.e ⟨0, 0⟩ s1.r, A2]) rfl ?_
          refine W_reg rfl ?_
          refine O_qs (q_move rfl) ?_
          refine O_qs (q_eql rfl rfl) ?_
          refine O_qs (q_move rfl) ?_
          refine O_qs (QY.guard rfl rfl rfl (q_move rfl)) ?_
          refine O_qs (QY.guard rfl rfl rfl (q_eql rfl rfl)) ?_
          refine O_qs (q_pick_t rfl rfl) ?_
          refine O_qs (q_move rfl) ?_
          refine O_qs (QY.guard rfl rfl rfl (q_move rfl)) ?_
          refine O_qs (QY.guard rfl rfl rfl (q_cf Try.call26 rfl (fun wd hwd => (search_Lane_ok _ sb1 cb1 lb1 0 key false s1.on s1.x)) (by repeat (first | exact Pick.nil | exact Take.here | apply Pick.cons | apply Take.there)))) ?_
          refine O_qs (QY.guard rfl rfl rfl (q_cf Try.call27 rfl (fun wd hwd => (lane_Found _ lb1 cb1 s1.x)) (by repeat (first | exact Pick.nil | exact Take.here | apply Pick.cons | apply Take.there)))) ?_
          refine O_qs (QY.guard rfl rfl rfl (q_move rfl)) ?_
          refine O_qs (QY.guard rfl rfl rfl (q_cf Try.call26 rfl (fun wd hwd => (search_Lane_ok _ sb2 cb2 lb2 0 key false s1.on s1.x)) (by repeat (first | exact Pick.nil | exact Take.here | apply Pick.cons | apply Take.there)))) ?_
          refine O_qs (QY.guard rfl rfl rfl (q_cf Try.call27 rfl (fun wd hwd => (lane_Found _ lb2 cb2 s1.x)) (by repeat (first | exact Pick.nil | exact Take.here | apply Pick.cons | apply Take.there)))) ?_
          refine O_qs (QY.guard rfl rfl rfl (q_eqb Try.runUnderlying4 rfl rfl)) ?_
          rw [show (s1.x.found == s1.x.found) = true from beq_self_eq_true _]
          refine O_qs (q_pick_t rfl rfl) ?_
          refine O_qs (q_move rfl) ?_
          refine O_qs (QY.guard rfl rfl rfl (q_move rfl)) ?_
          refine O_qs (QY.guard rfl rfl rfl (q_cf Try.call26 rfl (fun wd hwd => (search_Lane_ok _ sb1 cb1 lb1 0 key false s1.on s1.x)) (by repeat (first | exact Pick.nil | exact Take.here | apply Pick.cons | apply Take.there)))) ?_
          refine O_qs (QY.guard rfl rfl rfl (q_cf Try.call33 rfl (fun wd hwd => (lane_Who _ lb1 cb1 s1.x)) (by repeat (first | exact Pick.nil | exact Take.here | apply Pick.cons | apply Take.there)))) ?_
          refine O_qs (QY.guard rfl rfl rfl (q_move rfl)) ?_
          refine O_qs (QY.guard rfl rfl rfl (q_cf Try.call26 rfl (fun wd hwd => (search_Lane_ok _ sb2 cb2 lb2 0 key false s1.on s1.x)) (by repeat (first | exact Pick.nil | exact Take.here | apply Pick.cons | apply Take.there)))) ?_
          refine O_qs (QY.guard rfl rfl rfl (q_cf Try.call33 rfl (fun wd hwd => (lane_Who _ lb2 cb2 s1.x)) (by repeat (first | exact Pick.nil | exact Take.here | apply Pick.cons | apply Take.there)))) ?_
          refine O_qs (QY.guard rfl rfl rfl (q_bin eql_43 rfl rfl)) ?_
          rw [show (decide (s1.x.who.slot = s1.x.who.slot) && decide (s1.x.who.id = s1.x.who.id)) = true by simp]
          refine O_qs (q_pick_t rfl rfl) ?_
          refine O_qs (q_move rfl) ?_
          refine O_qs (QY.guard rfl rfl rfl (q_move rfl)) ?_
          refine O_qs (QY.guard rfl rfl rfl (q_cf Try.call26 rfl (fun wd hwd => (search_Lane_ok _ sb1 cb1 lb1 0 key false s1.on s1.x)) (by repeat (first | exact Pick.nil | exact Take.here | apply Pick.cons | apply Take.there)))) ?_
          refine O_qs (QY.guard rfl rfl rfl (q_cf Try.call38 rfl (fun wd hwd => (lane_At _ lb1 cb1 s1.x)) (by repeat (first | exact Pick.nil | exact Take.here | apply Pick.cons | apply Take.there)))) ?_
          refine O_qs (QY.guard rfl rfl rfl (q_move rfl)) ?_
          refine O_qs (QY.guard rfl rfl rfl (q_cf Try.call26 rfl (fun wd hwd => (search_Lane_ok _ sb2 cb2 lb2 0 key false s1.on s1.x)) (by repeat (first | exact Pick.nil | exact Take.here | apply Pick.cons | apply Take.there)))) ?_
          refine O_qs (QY.guard rfl rfl rfl (q_cf Try.call38 rfl (fun wd hwd => (lane_At _ lb2 cb2 s1.x)) (by repeat (first | exact Pick.nil | exact Take.here | apply Pick.cons | apply Take.there)))) ?_
          refine O_qs (QY.guard rfl rfl rfl (q_bin eql_91 rfl rfl)) ?_
          rw [show (decide (s1.x.at_.place.kind = s1.x.at_.place.kind) && (decide (s1.x.at_.place.slot = s1.x.at_.place.slot) && (decide (s1.x.at_.place.part = s1.x.at_.place.part) && decide (s1.x.at_.id = s1.x.at_.id)))) = true by simp]
          refine O_qs (q_pick_t rfl rfl) ?_
          refine O_qs (q_assign rfl) ?_
          refine O_nil ?_
          refine W_ret ?_
          refine res1 (c0 := []) rfl rfl (by repeat (first | exact Pick.nil | exact Take.here | apply Pick.cons | apply Take.there)) rfl ?_
          exact ⟨rfl, rfl⟩
end Go.Proofs.Ytaphhhnnplljdaa
