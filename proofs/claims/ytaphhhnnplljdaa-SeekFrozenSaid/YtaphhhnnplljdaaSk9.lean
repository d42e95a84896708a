/-
  The law of a search alone.
-/
import Derived.Test.YtaphhhnnplljdaaSk8
set_option linter.unusedSimpArgs false
set_option linter.unusedVariables false
namespace Go.Proofs.Ytaphhhnnplljdaa
open Go Go.SL

structure SInv (root key e : Int) (vals : Bool) (m : Mem) (s : SSt) (L1 R : List Nd) : Prop where
  way : Way key m root L1 R
  ep : m epochP = e
  st : (s.on = false ∧ L1 = []) ∨ (s.on = true ∧ s.some = true ∧ s.e = e ∧ LaneAt root key vals m L1 R s.x)

def sLeft (s : SSt) (R : List Nd) : Nat := if s.on = true then laneLeft s.x R else 4 * R.length + 5

theorem sstep {root key e : Int} {vals : Bool} {m : Mem} {s : SSt} {L1 R : List Nd} (h : SInv root key e vals m s L1 R) (he : 0 ≤ e ∧ e ≤ 1099511627775) :
    ∃ L1' R', L1' ++ R' = L1 ++ R ∧ (s.step root key vals m).s.some = true ∧
      ((s.step root key vals m).st = 0 ∧ SInv root key e vals (upd m (s.step root key vals m).wr) (s.step root key vals m).s L1' R' ∧ sLeft (s.step root key vals m).s R' < sLeft s R ∨
       (s.step root key vals m).st = 1 ∧ Way key (upd m (s.step root key vals m).wr) root L1' R' ∧ LaneEnd root key vals R' L1' (s.step root key vals m).s.x) := by
  obtain ⟨hw, hep, hst⟩ := h
  have hwr : IntKind.u64.wrap e = e := wu64 (by omega)
  rcases hst with ⟨hon, rfl⟩ | ⟨hon, hsome, hse, hla⟩
  · have hs : s.step root key vals m = ⟨0, ⟨true, true, newLane ⟨rootP root, 0⟩ 0 key vals, epw (m epochP), s.r⟩, none, true⟩ := by
      unfold SSt.step
      rw [if_neg (by simp [hon])]
    rw [hs]
    refine ⟨[], R, rfl, rfl, .inl ⟨rfl, ⟨hw, hep, .inr ⟨rfl, rfl, ?_, ?_⟩⟩, by simp [sLeft, hon, laneLeft, newLane]⟩⟩
    · show epw (m epochP) = e
      rw [hep]
      unfold epw
      rw [if_pos (by omega)]
    · exact ⟨rfl, rfl, rfl, rfl, rfl, .inl ⟨rfl, rfl, rfl⟩⟩
  · have hs : s.step root key vals m = ⟨if (s.x.step s.e s.r m).st = 2 then 0 else (s.x.step s.e s.r m).st, { s with on := decide ((s.x.step s.e s.r m).st ≠ 2), x := (s.x.step s.e s.r m).x, r := (s.x.step s.e s.r m).r }, (s.x.step s.e s.r m).wr, (s.x.step s.e s.r m).ld⟩ := by
      unfold SSt.step
      rw [if_pos hon]
    obtain ⟨L1', R', h1, h2, h3, h4, h5⟩ := lane_step (e := s.e) (r := s.r) hw hla (by rw [hse, hep, hwr]) (by rw [hse]; exact he)
    rw [hs]
    refine ⟨L1', R', h1, hsome, ?_⟩
    rcases h5 with ⟨g1, g2, g3⟩ | ⟨g1, g2⟩
    · left
      rw [g1]
      refine ⟨rfl, ⟨h3, by rw [h4, hep], .inr ⟨rfl, hsome, hse, g2⟩⟩, ?_⟩
      simpa [sLeft, hon] using g3
    · right
      rw [g1]
      exact ⟨rfl, h3, g2⟩

theorem SInv.pos {root key e : Int} {vals : Bool} {m : Mem} {s : SSt} {L1 R : List Nd} (h : SInv root key e vals m s L1 R) : 1 ≤ sLeft s R := by
  obtain ⟨hw, hep, hst⟩ := h
  rcases hst with ⟨hon, _⟩ | ⟨hon, _, _, _, _, _, _, _, h6⟩
  · simp [sLeft, hon]
  · unfold sLeft
    rw [if_pos hon]
    rcases h6 with ⟨hpc, _⟩ | ⟨hpc, _⟩ | ⟨y, R', rfl, _⟩
    · simp [laneLeft, hpc]
    · simp [laneLeft, hpc]
    · unfold laneLeft
      simp only [List.length_cons]
      repeat (first | omega | split)

theorem conf_Alone15 (B : World) : Ctr Try.prog 25 [cf15.v] B [] (fun u c => u = .int .i64 128512 ∧ c = []) := by
  refine Ctr.intro (n := 14) Try.func25 rfl Try.ntmps25 (Nat.le_of_ble_eq_true rfl) ?_
  refine W_seq ?_
  refine W_reg rfl ?_
  refine O_es (e_box (cs := #[_, _, _, _, _]) rfl rfl) ?_
  rintro _ _ ⟨b1, rfl, rfl⟩
  refine O_qs (q_assign rfl) ?_
  refine O_nil ?_
  refine W_seq ?_
  refine W_seq ?_
  refine W_reg rfl ?_
  refine O_qs (q_loadN (vs := [_, _, _, _, _]) Try.isAgg23 Try.sizeOf23 rfl (rd_range (by repeat (first | exact List.Mem.head _ | apply List.Mem.tail)) rfl)) ?_
  refine O_qs (q_cf Try.call56 rfl (fun wd hwd => (conf_Check _ cf15)) (by repeat (first | exact Pick.nil | exact Take.here | apply Pick.cons | apply Take.there))) ?_
  refine O_qs (q_neq rfl rfl) ?_
  refine O_nil ?_
  rw [cf15_ok]
  refine W_false rfl ?_
  refine W_skip ?_
  refine W_seq ?_
  refine W_reg rfl ?_
  refine O_qs (q_fa fa_23_1 rfl) ?_
  refine O_qs (q_load Try.isAgg3 rfl (rd_chunk (by repeat (first | exact List.Mem.head _ | apply List.Mem.tail)) rfl)) ?_
  refine O_qs (q_add (c := 1004) rfl rfl rfl) ?_
  refine O_qs (q_mul (c := 64256) rfl rfl rfl) ?_
  refine O_qs (q_fa fa_23_3 rfl) ?_
  refine O_qs (q_load Try.isAgg3 rfl (rd_chunk (by repeat (first | exact List.Mem.head _ | apply List.Mem.tail)) rfl)) ?_
  refine O_qs (q_add (c := 2) rfl rfl rfl) ?_
  refine O_qs (q_mul (c := 128512) rfl rfl rfl) ?_
  refine O_qs (q_assign rfl) ?_
  refine O_nil ?_
  refine W_ret ?_
  refine res1 (c0 := []) rfl rfl (by repeat (first | exact Pick.nil | exact Take.here | apply Pick.cons | apply Take.there)) rfl ?_
  exact ⟨rfl, rfl⟩

def wantOk (L1 R : List Nd) (x : Lane) (i : Nat) (W : List Nd) (found past : Bool) (val : Int) : Prop :=
  (i ≤ L1.length ∧ past = false ∧ W = kept (L1.take i) ∧ found = false) ∨ (L1.length < i ∧ past = true ∧ W = kept L1 ++ R.take (i - L1.length) ∧ found = x.found ∧ (found = true → val = x.v.word))

theorem law15_SeekAlone (B : World) (sa : Option Addr) (cap : Nat) (L : List Nd) (key : Int) (hb : BaseRow layN B sa L) (hL : L.length ≤ 9223372036854775807) (hw : ∀ x, x ∈ L → NdW x) :
    Ctr Try.prog 4 [.slice sa L.length cap, .int .u64 key] B [] (fun u c => u = .bool true ∧ c = []) := by
  refine Ctr.intro (n := 148) Try.func4 rfl Try.ntmps4 (Nat.le_of_ble_eq_true rfl) ?_
  refine W_seq ?_
  refine W_reg rfl ?_
  refine O_qs (q_assign rfl) ?_
  refine O_nil ?_
  refine W_seq ?_
  refine W_seq ?_
  refine W_reg rfl ?_
  refine O_qs (q_cf Try.call18 rfl (fun wd hwd => (law15_awake _)) (by repeat (first | exact Pick.nil | exact Take.here | apply Pick.cons | apply Take.there))) ?_
  refine O_qs (q_not rfl) ?_
  refine O_nil ?_
  refine W_false rfl ?_
  refine W_skip ?_
  refine W_seq ?_
  refine W_reg rfl ?_
  refine O_qs (q_build rfl (bld_40 (cs := [_]) rfl)) ?_
  refine O_es (e_box (cs := #[_]) rfl rfl) ?_
  rintro _ _ ⟨b22, rfl, rfl⟩
  refine O_qs (q_assign rfl) ?_
  refine O_nil ?_
  refine W_seq ?_
  refine W_conv (ctx' := [oraw b22 (.slice none 0 0), []]) rfl ?_
  refine W_reg rfl ?_
  refine O_qs (q_move rfl) ?_
  refine O_es (e_cf Try.call19 rfl (fun wd hwd => (law15_sorted _ sa L.length cap L rfl (hb.still hwd) hL hw)) (by repeat (first | exact Pick.nil | exact Take.here | apply Pick.cons | apply Take.there))) ?_
  rintro _ _ ⟨_, ⟨N, S, hN, hG, rfl⟩, rfl⟩
  refine O_qs (q_assign rfl) ?_
  refine O_nil ?_
  refine W_seq ?_
  have hS40 := hG.le
  obtain ⟨na, nc, rfl⟩ := hN.len
  refine W_reg rfl ?_
  refine O_qs (q_move rfl) ?_
  refine O_qs (q_move rfl) ?_
  refine O_es (e_cf Try.call20 rfl (fun wd hwd => (ref15_Lay _ b22 [] (.slice none 0 0) [] 1 0 9 N _ S hN (Row.nil ..) (by decide) (by omega) (by decide) (by decide))) (by repeat (first | exact Pick.nil | exact Take.here | apply Pick.cons | apply Take.there))) ?_
  rintro _ _ ⟨_, ⟨R1, v1, hR1, rfl, rfl⟩, rfl⟩
  refine O_nil ?_
  refine W_seq ?_
  refine W_reg rfl ?_
  refine O_qs (q_move rfl) ?_
  have hll := lay_len (root := 1) (lv := 0) (e := 9) (L := S) (l := [])
  simp only [List.length_nil] at hll
  refine O_es (e_cf Try.call21 rfl (fun wd hwd => (law15_laid _ b22 R1 v1 _ hR1 (by omega) (lay_keys List.nodup_nil) (lay_wm (by decide) hG.wd Wm.nil))) (by repeat (first | exact Pick.nil | exact Take.here | apply Pick.cons | apply Take.there))) ?_
  rintro _ _ ⟨_, ⟨wb, A, k, l2, hA, hm, rfl, rfl⟩, rfl⟩
  refine O_qs (q_assign rfl) ?_
  refine O_nil ?_
  refine W_seq ?_
  refine W_reg rfl ?_
  have hmf : mem l2 = mem (lay 1 0 9 S []) := funext hm
  have hw0 : Way key (mem l2) 1 [] S := ⟨by rw [hmf]; exact lay_chain (by decide) (by decide) hG.slots, hG.slots, (fun x hx => by cases hx), hA.wds.mem⟩
  have hep0 : mem l2 epochP = 9 := by rw [hmf]; exact lay_epoch
  clear hm hmf hll hR1
  refine O_qs (q_cf Try.call23 rfl (fun wd hwd => (law15_conf _)) (by repeat (first | exact Pick.nil | exact Take.here | apply Pick.cons | apply Take.there))) ?_
  refine O_es (e_cf Try.call8 rfl (fun wd hwd => (core_New_ok _ cf15 cf15_ok)) (by repeat (first | exact Pick.nil | exact Take.here | apply Pick.cons | apply Take.there))) ?_
  rintro _ _ ⟨_, ⟨cb, qb, Q, qv, ring, qk, qh, hq, rfl, rfl⟩, rfl⟩
  refine O_qs (q_move rfl) ?_
  refine O_es (e_cf Try.call22 rfl (fun wd hwd => (seek_NewSearch _ cb 1 key true ⟨false, false, newLane ⟨rootP 0, 0⟩ 0 0 false, 0, 0⟩ rfl rfl)) (by repeat (first | exact Pick.nil | exact Take.here | apply Pick.cons | apply Take.there))) ?_
  rintro _ _ ⟨_, ⟨sb, T, hT, rfl, rfl⟩, rfl⟩
  refine O_qs (q_assign rfl) ?_
  refine O_nil ?_
  refine W_seq ?_
  refine W_reg rfl ?_
  refine O_qs (q_assign rfl) ?_
  refine O_nil ?_
  refine W_seq ?_
  refine W_reg rfl ?_
  refine O_qs (q_assign rfl) ?_
  refine O_nil ?_
  refine W_seq ?_
  refine W_block ?_
  refine W_loopD (fun (d : (Nat × Int × SSt) × (Atom × Atom × Count × List (Plc × Int)) × List Nd × List Nd) => [(10, .int .i64 (d.1.1 : Int)), (9, .int .i64 d.1.2.1), (8, ptr sb), (7, ptr wb), (6, .slice na S.length nc), (1, .int .u64 key)]) (fun ((_, _, s), (T, A, _, _), _, _) => [T, coreA cb qb cf15 s.e ⟨0, 0⟩ s.r, A, N]) (fun d => if d.1.2.1 = 0 then sLeft d.1.2.2 d.2.2.2 + 1 else 0) (fun ((n, st, s), (T, A, k, l2), L1, R) => SrchIs T sb cb 1 key true s ∧ PlainIs A wb l2 k ∧ L1 ++ R = S ∧ (st = 0 ∧ SInv 1 key 9 true (mem l2) s L1 R ∧ n + sLeft s R ≤ 4 * S.length + 5 ∨ st = 1 ∧ n ≤ 4 * S.length + 5 ∧ s.some = true ∧ Way key (mem l2) 1 L1 R ∧ LaneEnd 1 key true R L1 s.x)) ((0, 0, ⟨false, false, newLane ⟨rootP 0, 0⟩ 0 0 false, 0, 0⟩), (T, A, k, l2), [], S) ?_ (by repeat (first | exact Sub.nil | refine Sub.cons rfl ?_)) (by repeat (first | exact Pick.nil | exact Take.here | apply Pick.cons | apply Take.there)) ?_
  · exact ⟨hT, hA, rfl, .inl ⟨rfl, ⟨hw0, hep0, .inl ⟨rfl, rfl⟩⟩, by simp [sLeft]⟩⟩
  · rintro ⟨⟨n, st, s⟩, ⟨T, A, k, l2⟩, L1, R⟩ ⟨hT, hA, hLR, hcase⟩
    dsimp only at hT hA hLR hcase ⊢
    have hn : n ≤ 4 * S.length + 5 := by rcases hcase with ⟨_, _, h⟩ | ⟨_, h, _⟩ <;> omega
    refine W_seq ?_
    refine W_seq ?_
    refine W_reg rfl ?_
    refine O_qs (q_move rfl) ?_
    refine O_qs (q_move rfl) ?_
    refine O_qs (q_len Try.runUnderlying65 rfl) ?_
    refine O_qs (q_mul (w64 (by omega)) rfl rfl) ?_
    refine O_qs (q_add (w64 (by omega)) rfl rfl) ?_
    refine O_qs (q_lss rfl rfl) ?_
    refine O_qs (q_move rfl) ?_
    refine O_qs (QY.cond0 rfl rfl rfl (fun H => q_move rfl)) ?_
    refine O_qs (QY.cond0 rfl rfl rfl (fun H => q_eql (gvh rfl H) rfl)) ?_
    refine O_qs (q_and rfl rfl rfl) ?_
    refine O_nil ?_
    refine W_cond rfl ?_ ?_
    · intro hc
      have hst : st = 0 := by simp at hc; exact hc.2
      obtain ⟨hI, hnl⟩ : SInv 1 key 9 true (mem l2) s L1 R ∧ n + sLeft s R ≤ 4 * S.length + 5 := by
        rcases hcase with ⟨_, h1, h2⟩ | ⟨h, _⟩
        · exact ⟨h1, h2⟩
        · omega
      subst hst
      obtain ⟨L1', R', hLR', hsome, hnx⟩ := sstep hI (by decide)
      have hk := hA.keys
      refine W_skip ?_
      refine W_block ?_
      refine W_seq ?_
      refine W_reg rfl ?_
      refine O_qs (q_move rfl) ?_
      refine O_qs (q_move rfl) ?_
      refine O_qs (q_mkI mki_35 rfl) ?_
      refine O_es (e_cf Try.call24 rfl (fun wd hwd => (search_Step _ T sb cb qb 1 key true s cf15 ⟨0, 0⟩ A wb k l2 hT hA)) (by repeat (first | exact Pick.nil | exact Take.here | apply Pick.cons | apply Take.there))) ?_
      rintro _ _ ⟨_, ⟨T', A', hT', hA', rfl, rfl⟩, rfl⟩
      refine O_qs (q_assign rfl) ?_
      refine O_nil ?_
      refine W_reg rfl ?_
      refine O_qs (q_move rfl) ?_
      refine O_qs (q_add (c := ((n + 1 : Nat) : Int)) (w64' (by omega) (by omega)) rfl rfl) ?_
      refine O_qs (q_assign rfl) ?_
      refine O_nil ?_
      generalize s.step 1 key true (mem l2) = t at hT' hA' hsome hnx ⊢
      have hmw : mem (wrl l2 t.wr) = upd (mem l2) t.wr := mem_wrl hk t.wr
      rw [← hmw] at hnx
      refine ⟨((n + 1, t.st, t.s), (T', A', ldK k t.ld t.wr.isSome, wrl l2 t.wr), L1', R'), _, ?_, ?_, (by repeat (first | exact Sub.nil | refine Sub.cons rfl ?_)), (by repeat (first | exact Pick.nil | exact Take.here | apply Pick.cons | apply Take.there))⟩
      · refine ⟨hT', hA', hLR'.trans hLR, ?_⟩
        rcases hnx with ⟨h1, h2, h3⟩ | ⟨h1, h2, h3⟩
        · exact .inl ⟨h1, h2, by dsimp only; omega⟩
        · refine .inr ⟨h1, ?_, hsome, h2, h3⟩
          have := hI.pos
          dsimp only
          omega
      · dsimp only
        rw [if_pos rfl]
        rcases hnx with ⟨h1, h2, h3⟩ | ⟨h1, h2, h3⟩
        · rw [if_pos h1]; omega
        · rw [if_neg (by omega)]; omega
    · intro hc
      obtain ⟨hst, hsome, hWay, hEnd⟩ : st = 1 ∧ s.some = true ∧ Way key (mem l2) 1 L1 R ∧ LaneEnd 1 key true R L1 s.x := by
        rcases hcase with ⟨h, _⟩ | ⟨h, _, h1, h2, h3⟩
        · subst h
          simp at hc
          omega
        · exact ⟨h, h1, h2, h3⟩
      subst hst
      clear hcase
      obtain ⟨hok, lb, rfl⟩ := hT.found hsome
      refine W_exit ?_
      refine W_seq ?_
      refine W_seq ?_
      refine W_conv (ctx' := [srchA sb cb 1 key true (ptr lb) s.on, laneA lb cb s.x, coreA cb qb cf15 s.e ⟨0, 0⟩ s.r, A, N]) rfl ?_
      refine W_reg rfl ?_
      refine O_qs (q_move rfl) ?_
      refine O_qs (q_neq rfl rfl) ?_
      refine O_qs (q_move rfl) ?_
      refine O_qs (QY.guard rfl rfl rfl (q_move rfl)) ?_
      refine O_qs (QY.guard rfl rfl rfl (q_cf Try.call23 rfl (fun wd hwd => (law15_conf _)) (by repeat (first | exact Pick.nil | exact Take.here | apply Pick.cons | apply Take.there)))) ?_
      refine O_qs (QY.guard rfl rfl rfl (q_cf Try.call25 rfl (fun wd hwd => (conf_Alone15 _)) (by repeat (first | exact Pick.nil | exact Take.here | apply Pick.cons | apply Take.there)))) ?_
      refine O_qs (QY.guard rfl rfl rfl (q_gtr rfl rfl)) ?_
      refine O_qs (q_pick_f rfl rfl) ?_
      refine O_nil ?_
      refine W_fa rfl ((by simp; omega)) ?_
      refine W_skip ?_
      refine W_seq ?_
      refine W_reg rfl ?_
      refine O_es (e_bslice (zl := []) (cs := []) Try.runUnderlying65 Try.sizeOf74 Try.zeroValue74 rfl (by kernel_rfl) rfl rfl) ?_
      rintro _ _ ⟨b58, rfl, rfl⟩
      refine O_qs (q_assign rfl) ?_
      refine O_nil ?_
      refine W_seq ?_
      refine W_reg rfl ?_
      refine O_qs (q_assign rfl) ?_
      refine O_nil ?_
      refine W_seq ?_
      refine W_reg rfl ?_
      refine O_qs (q_assign rfl) ?_
      refine O_nil ?_
      refine W_seq ?_
      refine W_reg rfl ?_
      refine O_qs (q_assign rfl) ?_
      refine O_nil ?_
      refine W_seq ?_
      refine W_seq ?_
      refine W_reg rfl ?_
      refine O_qs (q_assign rfl) ?_
      refine O_nil ?_
      refine W_block ?_
      have hlen : S.length = L1.length + R.length := by rw [← hLR]; simp
      have hSg : ∀ i y, S[i]? = some y → (i < L1.length → y ∈ L1 ∧ kept (L1.take (i + 1)) = if y.mark then kept (L1.take i) else kept (L1.take i) ++ [y]) ∧ (L1.length ≤ i → R[i - L1.length]? = some y) := by
        intro i y hy
        rw [← hLR] at hy
        refine ⟨fun h => ?_, fun h => ?_⟩
        · rw [List.getElem?_append_left h] at hy
          refine ⟨List.mem_of_getElem? hy, ?_⟩
          rw [List.take_add_one, hy]
          cases hm : y.mark with
          | true => simp only [Option.toList_some, if_true]; exact kept_snoc_mark hm
          | false => simp only [Option.toList_some, Bool.false_eq_true, if_false]; exact kept_snoc hm
        · rw [List.getElem?_append_right h] at hy; exact hy
      refine W_loopD (fun (d : (Nat × Bool × Bool × Int) × (Option Addr × Nat × Atom × List Nd)) => [(15, .int .i64 (d.1.1 : Int)), (14, .int .u64 d.1.2.2.2), (13, .bool d.1.2.2.1), (12, .bool d.1.2.1), (11, .slice d.2.1 d.2.2.2.2.length d.2.2.1), (8, ptr sb), (7, ptr wb), (6, .slice na S.length nc), (1, .int .u64 key)]) (fun (_, _, _, Wa, _) => [Wa, srchA sb cb 1 key true (ptr lb) s.on, laneA lb cb s.x, A, N]) (fun d => S.length - d.1.1) (fun ((i, found, past, val), a2, c2, Wa, W) => i ≤ S.length ∧ W.length ≤ i ∧ Row layN 74 Wa (.slice a2 W.length c2) W ∧ wantOk L1 R s.x i W found past val) ((0, false, false, 0), some ⟨b58, 0, none⟩, 0, [(b58, .cells #[] 74 (0, 0))], []) ?_ (by repeat (first | exact Sub.nil | refine Sub.cons rfl ?_)) (by repeat (first | exact Pick.nil | exact Take.here | apply Pick.cons | apply Take.there)) ?_
      · exact ⟨Nat.zero_le _, Nat.le_refl _, row_empty layN b58 74, .inl ⟨Nat.zero_le _, rfl, rfl, rfl⟩⟩
      · rintro ⟨⟨i, found, past, val⟩, a2, c2, Wa, W⟩ ⟨hi, hWl, hWr, hok2⟩
        dsimp only at hi hWl hWr hok2 ⊢
        refine W_seq ?_
        refine W_seq ?_
        refine W_reg rfl ?_
        refine O_qs (q_move rfl) ?_
        refine O_qs (q_move rfl) ?_
        refine O_qs (q_len Try.runUnderlying65 rfl) ?_
        refine O_qs (q_lss rfl rfl) ?_
        refine O_nil ?_
        refine W_cond rfl ?_ ?_
        · intro hc
          have hlt : i < S.length := by simpa using hc
          obtain ⟨ng, nc', e1⟩ := hN.ptr (by omega)
          simp only [Value.slice.injEq, true_and] at e1
          obtain ⟨rfl, rfl⟩ := e1
          have hV : S[i]? = some S[i] := List.getElem?_eq_getElem hlt
          obtain ⟨hsg1, hsg2⟩ := hSg i _ hV
          generalize S[i] = y at hV hsg1 hsg2
          refine W_skip ?_
          refine W_seq ?_
          refine W_block ?_
          refine W_seq ?_
          refine W_seq ?_
          refine W_reg rfl ?_
          refine O_qs (q_move rfl) ?_
          refine O_qs (q_not rfl) ?_
          refine O_qs (q_move rfl) ?_
          refine O_qs (QY.cond0 rfl rfl rfl (fun H => q_move rfl)) ?_
          refine O_qs (QY.cond0 rfl rfl rfl (fun H => q_move rfl)) ?_
          refine O_qs (QY.cond0 rfl rfl rfl (fun H => q_ian Try.runUnderlying65 Try.sizeOf74 (gvh rfl H) (gvh rfl H) hlt)) ?_
          refine O_qs (QY.cond0 rfl rfl rfl (fun H => q_fa fa_74_3 (gvh rfl H))) ?_
          refine O_qs (QY.cond0 rfl rfl rfl (fun H => q_load Try.isAgg4 (gvh rfl H) (hN.rd (by repeat (first | exact List.Mem.head _ | apply List.Mem.tail)) hV (j := 3) rfl (by show 0 + i * 4 + 3 = _; simp [layN])))) ?_
          refine O_qs (q_and rfl rfl rfl) ?_
          refine O_nil ?_
          refine W_cond rfl ?_ ?_
          · intro hmk
            have hmk' : past = false ∧ y.mark = true := by revert hmk; cases past <;> simp
            have hi1 : i < L1.length := by
              rcases hok2 with ⟨h, _⟩ | ⟨_, h, _⟩
              · rcases Nat.lt_or_ge i L1.length with h' | h'
                · exact h'
                · exfalso
                  have hRy := hsg2 h'
                  have : i - L1.length = 0 := by omega
                  rw [this] at hRy
                  rcases hEnd.2 with ⟨hR0, _⟩ | ⟨z, R', hRz, hzm, _⟩
                  · rw [hR0] at hRy; simp at hRy
                  · rw [hRz] at hRy; simp at hRy; rw [← hRy, hzm] at hmk'; exact absurd hmk'.2 (by simp)
              · rw [hmk'.1] at h; cases h
            have hk2 := (hsg1 hi1).2
            rw [if_pos hmk'.2] at hk2
            refine W_exit ?_
            refine W_reg rfl ?_
            refine O_qs (q_move rfl) ?_
            refine O_qs (q_add (c := ((i + 1 : Nat) : Int)) (w64' (by omega) (by omega)) rfl rfl) ?_
            refine O_qs (q_assign rfl) ?_
            refine O_nil ?_
            refine ⟨((i + 1, found, past, val), a2, c2, Wa, W), _, ?_, ?_, (by repeat (first | exact Sub.nil | refine Sub.cons rfl ?_)), (by repeat (first | exact Pick.nil | exact Take.here | apply Pick.cons | apply Take.there))⟩
            · refine ⟨hlt, Nat.le_succ_of_le hWl, hWr, ?_⟩
              rcases hok2 with ⟨h1, h2, h3, h4⟩ | ⟨h1, h2, _⟩
              · exact .inl ⟨hi1, h2, by rw [hk2]; exact h3, h4⟩
              · rw [hmk'.1] at h2; cases h2
            · dsimp only; omega
          · intro hmk
            have hmk' : past = false → y.mark = false := by revert hmk; cases past <;> simp
            refine W_skip ?_
            refine W_seq ?_
            refine W_reg rfl ?_
            refine O_qs (q_move rfl) ?_
            refine O_qs (q_move rfl) ?_
            refine O_qs (q_move rfl) ?_
            refine O_qs (q_ian Try.runUnderlying65 Try.sizeOf74 rfl rfl hlt) ?_
            refine O_qs (q_loadN (vs := Nd.l y) Try.isAgg74 Try.sizeOf74 rfl (hN.rds (by repeat (first | exact List.Mem.head _ | apply List.Mem.tail)) hV (by show 0 + i * 4 = _; simp [layN]))) ?_
            refine O_es (e_bslice (zl := [.int .i64 0, .int .u64 0, .int .u64 0, .bool false]) (cs := [_, _, _, _]) Try.runUnderlying65 Try.sizeOf74 Try.zeroValue74 rfl (by kernel_rfl) rfl rfl) ?_
            rintro _ _ ⟨b79, rfl, rfl⟩
            refine O_es (ap_N (N := [y]) hWr (fun _ => (by repeat (first | exact Upd.here | apply Upd.there))) rfl rfl (src_raw (by repeat (first | exact List.Mem.head _ | apply List.Mem.tail))) (by simp; omega)) ?_
            rintro _ _ ⟨Wb, hWb, rfl⟩
            obtain ⟨a3, c3, rfl⟩ := hWb.len
            refine O_qs (q_assign rfl) ?_
            refine O_nil ?_
            refine W_seq ?_
            refine W_reg rfl ?_
            refine O_qs (q_move rfl) ?_
            refine O_qs (q_not rfl) ?_
            refine O_qs (q_move rfl) ?_
            refine O_qs (QY.cond0 rfl rfl rfl (fun H => q_move rfl)) ?_
            refine O_qs (QY.cond0 rfl rfl rfl (fun H => q_move rfl)) ?_
            refine O_qs (QY.cond0 rfl rfl rfl (fun H => q_ian Try.runUnderlying65 Try.sizeOf74 (gvh rfl H) (gvh rfl H) hlt)) ?_
            refine O_qs (QY.cond0 rfl rfl rfl (fun H => q_fa fa_74_1 (gvh rfl H))) ?_
            refine O_qs (QY.cond0 rfl rfl rfl (fun H => q_load Try.isAgg41 (gvh rfl H) (hN.rd (by repeat (first | exact List.Mem.head _ | apply List.Mem.tail)) hV (j := 1) rfl (by show 0 + i * 4 + 1 = _; simp [layN])))) ?_
            refine O_qs (QY.cond0 rfl rfl rfl (fun H => q_move rfl)) ?_
            refine O_qs (QY.cond0 rfl rfl rfl (fun H => q_geq (gvh rfl H) (gvh rfl H))) ?_
            refine O_qs (q_and rfl rfl rfl) ?_
            refine O_nil ?_
            refine W_cond rfl ?_ ?_
            · intro hg
              have hg' : past = false ∧ key ≤ y.key := by revert hg; cases past <;> simp
              have hym := hmk' hg'.1
              obtain ⟨h1, _, h3, _⟩ : i ≤ L1.length ∧ past = false ∧ W = kept (L1.take i) ∧ found = false := by
                rcases hok2 with h | ⟨_, h, _⟩
                · exact h
                · rw [hg'.1] at h; cases h
              have hiL : i = L1.length := by
                rcases Nat.lt_or_ge i L1.length with h' | h'
                · have := hWay.low y (hsg1 h').1 hym; omega
                · omega
              have hRy := hsg2 (by omega)
              rw [hiL, Nat.sub_self] at hRy
              obtain ⟨z, R', hRz, hzm, hzk, hzf, hzv⟩ : ∃ z R', R = z :: R' ∧ z.mark = false ∧ key ≤ z.key ∧ s.x.found = decide (z.key = key) ∧ (true = true → z.key = key → s.x.v.word = z.val) := by
                rcases hEnd.2 with ⟨hR0, _⟩ | h
                · rw [hR0] at hRy; simp at hRy
                · exact h
              have hzy : z = y := by rw [hRz] at hRy; simpa using hRy
              subst hzy
              refine W_seq ?_
              refine W_reg rfl ?_
              refine O_qs (q_assign rfl) ?_
              refine O_nil ?_
              refine W_seq ?_
              refine W_reg rfl ?_
              refine O_qs (q_move rfl) ?_
              refine O_qs (q_move rfl) ?_
              refine O_qs (q_ian Try.runUnderlying65 Try.sizeOf74 rfl rfl hlt) ?_
              refine O_qs (q_fa fa_74_1 rfl) ?_
              refine O_qs (q_load Try.isAgg41 rfl (hN.rd (by repeat (first | exact List.Mem.head _ | apply List.Mem.tail)) hV (j := 1) rfl (by show 0 + i * 4 + 1 = _; simp [layN]))) ?_
              refine O_qs (q_move rfl) ?_
              refine O_qs (q_eql rfl rfl) ?_
              refine O_qs (q_assign rfl) ?_
              refine O_nil ?_
              refine W_reg rfl ?_
              refine O_qs (q_move rfl) ?_
              refine O_qs (q_move rfl) ?_
              refine O_qs (q_ian Try.runUnderlying65 Try.sizeOf74 rfl rfl hlt) ?_
              refine O_qs (q_fa fa_74_2 rfl) ?_
              refine O_qs (q_load Try.isAgg41 rfl (hN.rd (by repeat (first | exact List.Mem.head _ | apply List.Mem.tail)) hV (j := 2) rfl (by show 0 + i * 4 + 2 = _; simp [layN]))) ?_
              refine O_qs (q_assign rfl) ?_
              refine O_nil ?_
              refine W_reg rfl ?_
              refine O_qs (q_move rfl) ?_
              refine O_qs (q_add (c := ((i + 1 : Nat) : Int)) (w64' (by omega) (by omega)) rfl rfl) ?_
              refine O_qs (q_assign rfl) ?_
              refine O_nil ?_
              refine ⟨((i + 1, decide (z.key = key), true, z.val), a3, c3, Wb, W ++ [z]), _, ?_, ?_, (by repeat (first | exact Sub.nil | refine Sub.cons rfl ?_)), (by repeat (first | exact Pick.nil | exact Take.here | apply Pick.cons | apply Take.there))⟩
              · refine ⟨hlt, by simp; omega, hWb, .inr ⟨by dsimp only; omega, rfl, ?_, hzf.symm, fun h => ?_⟩⟩
                · rw [h3, hRz, hiL, List.take_length]
                  simp
                · exact (hzv rfl (of_decide_eq_true h)).symm
              · dsimp only; omega
            · intro hg
              have hg' : past = false → y.key < key := by revert hg; cases past <;> simp
              refine W_skip ?_
              refine W_reg rfl ?_
              refine O_qs (q_move rfl) ?_
              refine O_qs (q_add (c := ((i + 1 : Nat) : Int)) (w64' (by omega) (by omega)) rfl rfl) ?_
              refine O_qs (q_assign rfl) ?_
              refine O_nil ?_
              refine ⟨((i + 1, found, past, val), a3, c3, Wb, W ++ [y]), _, ?_, ?_, (by repeat (first | exact Sub.nil | refine Sub.cons rfl ?_)), (by repeat (first | exact Pick.nil | exact Take.here | apply Pick.cons | apply Take.there))⟩
              · refine ⟨hlt, by simp; omega, hWb, ?_⟩
                rcases hok2 with ⟨h1, h2, h3, h4⟩ | ⟨h1, h2, h3, h4, h5⟩
                · have hym := hmk' h2
                  have hyk := hg' h2
                  have hi1 : i < L1.length := by
                    rcases Nat.lt_or_ge i L1.length with h' | h'
                    · exact h'
                    · exfalso
                      have hRy := hsg2 h'
                      have : i - L1.length = 0 := by omega
                      rw [this] at hRy
                      rcases hEnd.2 with ⟨hR0, _⟩ | ⟨z, R', hRz, _, hzk, _⟩
                      · rw [hR0] at hRy; simp at hRy
                      · rw [hRz] at hRy; simp at hRy; rw [← hRy] at hyk; omega
                  have hk2 := (hsg1 hi1).2
                  rw [if_neg (by simp [hym])] at hk2
                  exact .inl ⟨hi1, h2, by rw [hk2, h3], h4⟩
                · have hRy := hsg2 (by omega)
                  refine .inr ⟨by dsimp only; omega, h2, ?_, h4, h5⟩
                  dsimp only
                  rw [h3, show i + 1 - L1.length = (i - L1.length) + 1 by omega, List.take_add_one, hRy]
                  simp
              · dsimp only; omega
        · intro hc
          have hil : i = S.length := by simp at hc; omega
          subst hil
          obtain ⟨hWf, hff, hvv⟩ : W = kept L1 ++ R ∧ found = s.x.found ∧ (found = true → val = s.x.v.word) := by
            rcases hok2 with ⟨h1, h2, h3, h4⟩ | ⟨h1, h2, h3, h4, h5⟩
            · have hR0 : R = [] := List.eq_nil_of_length_eq_zero (by omega)
              refine ⟨by rw [h3, hR0, List.append_nil, List.take_of_length_le (by omega)], ?_, fun h => by rw [h4] at h; cases h⟩
              rcases hEnd.2 with ⟨_, h⟩ | ⟨z, R', hRz, _⟩
              · rw [h4, h]
              · rw [hR0] at hRz; cases hRz
            · exact ⟨by rw [h3, List.take_of_length_le (by omega)], h4, h5⟩
          clear hok2
          have hch : Chain (mem l2) 0 (rootP 1) false W := by rw [hWf]; exact hWay.chain
          subst hff
          refine W_exit ?_
          refine W_seq ?_
          refine W_seq ?_
          refine W_cut (fun (_ : Unit) => [(118, .bool false), (11, .slice a2 W.length c2), (7, ptr wb)]) (fun _ => [Wa, A]) (fun _ => True) ?_ ?_
          · cases hxf : s.x.found with
            | false =>
              refine W_reg rfl ?_
              refine O_qs (q_move rfl) ?_
              refine O_qs (q_cf Try.call26 rfl (fun wd hwd => (search_Lane_ok _ sb cb lb 1 key true s.on s.x)) (by repeat (first | exact Pick.nil | exact Take.here | apply Pick.cons | apply Take.there))) ?_
              refine O_qs (q_cf Try.call27 rfl (fun wd hwd => (lane_Found _ lb cb s.x)) (by repeat (first | exact Pick.nil | exact Take.here | apply Pick.cons | apply Take.there))) ?_
              rw [hxf]
              refine O_qs (q_move rfl) ?_
              refine O_qs (q_neb Try.runUnderlying4 rfl rfl) ?_
              refine O_qs (q_move rfl) ?_
              refine O_qs (QY.guard rfl rfl rfl (q_move rfl)) ?_
              refine O_qs (QY.guard rfl rfl rfl (q_move rfl)) ?_
              refine O_qs (QY.skip rfl rfl rfl rfl) ?_
              refine O_qs (QY.skip rfl rfl rfl rfl) ?_
              refine O_qs (QY.skip rfl rfl rfl rfl) ?_
              refine O_qs (QY.skip rfl rfl rfl rfl) ?_
              refine O_qs (QY.skip rfl rfl rfl rfl) ?_
              refine O_qs (QY.guard rfl rfl rfl (q_pick_f rfl rfl)) ?_
              refine O_qs (q_pick_f rfl rfl) ?_
              refine O_nil ?_
              refine ⟨(), _, ?_, (by repeat (first | exact Sub.nil | refine Sub.cons rfl ?_)), (by repeat (first | exact Pick.nil | exact Take.here | apply Pick.cons | apply Take.there))⟩
              trivial
            | true =>
              refine W_reg rfl ?_
              refine O_qs (q_move rfl) ?_
              refine O_qs (q_cf Try.call26 rfl (fun wd hwd => (search_Lane_ok _ sb cb lb 1 key true s.on s.x)) (by repeat (first | exact Pick.nil | exact Take.here | apply Pick.cons | apply Take.there))) ?_
              refine O_qs (q_cf Try.call27 rfl (fun wd hwd => (lane_Found _ lb cb s.x)) (by repeat (first | exact Pick.nil | exact Take.here | apply Pick.cons | apply Take.there))) ?_
              rw [hxf]
              refine O_qs (q_move rfl) ?_
              refine O_qs (q_neb Try.runUnderlying4 rfl rfl) ?_
              refine O_qs (q_move rfl) ?_
              refine O_qs (QY.guard rfl rfl rfl (q_move rfl)) ?_
              refine O_qs (QY.guard rfl rfl rfl (q_move rfl)) ?_
              refine O_qs (QY.guard rfl rfl rfl (q_move rfl)) ?_
              refine O_qs (QY.guard rfl rfl rfl (q_cf Try.call26 rfl (fun wd hwd => (search_Lane_ok _ sb cb lb 1 key true s.on s.x)) (by repeat (first | exact Pick.nil | exact Take.here | apply Pick.cons | apply Take.there)))) ?_
              refine O_qs (QY.guard rfl rfl rfl (q_cf Try.call28 rfl (fun wd hwd => (lane_Val _ lb cb s.x)) (by repeat (first | exact Pick.nil | exact Take.here | apply Pick.cons | apply Take.there)))) ?_
              refine O_qs (QY.guard rfl rfl rfl (q_move rfl)) ?_
              refine O_qs (QY.guard rfl rfl rfl (q_neq rfl rfl)) ?_
              refine O_qs (QY.guard rfl rfl rfl (q_pick_t rfl rfl)) ?_
              refine O_qs (q_pick_f rfl rfl) ?_
              refine O_nil ?_
              have hdv : (!decide (s.x.v.word = val)) = false := by rw [hvv hxf]; simp
              rw [hdv]
              refine ⟨(), _, ?_, (by repeat (first | exact Sub.nil | refine Sub.cons rfl ?_)), (by repeat (first | exact Pick.nil | exact Take.here | apply Pick.cons | apply Take.there))⟩
              trivial
          · rintro - -
            refine W_false rfl ?_
            refine W_skip ?_
            refine W_seq ?_
            refine W_reg rfl ?_
            refine O_qs (q_cf Try.call29 rfl (fun wd hwd => (place_Root _ 1)) (by repeat (first | exact Pick.nil | exact Take.here | apply Pick.cons | apply Take.there))) ?_
            refine O_es (e_alloc (cs := #[.int .i64 0, .int .i64 0, .int .i64 0]) Try.zeroValue79 rfl) ?_
            rintro _ _ ⟨b16, rfl, rfl⟩
            refine O_en (e_storeN (vs := [_, _, _]) Try.sizeOf79 rfl rfl rfl (by repeat (first | exact Upd.here | apply Upd.there)) rfl (by simp only [setAll, List.setIfInBounds_toArray, List.set_cons_succ, List.set_cons_zero, Nat.reduceAdd, Nat.zero_add] <;> rfl)) ?_
            rintro _ _ ⟨rfl, rfl⟩
            refine O_nil ?_
            refine W_seq ?_
            refine W_seq ?_
            refine W_reg rfl ?_
            refine O_qs (q_assign rfl) ?_
            refine O_nil ?_
            refine W_block ?_
            refine W_loopD (fun (d : Nat × Plc) => [(17, .int .i64 (d.1 : Int)), (16, ptr b16), (11, .slice a2 W.length c2), (7, ptr wb)]) (fun d => [[(b16, .cells (Plc.l d.2).toArray 79 (0, 0))], Wa, A]) (fun d => W.length - d.1) (fun (i, p) => i ≤ W.length ∧ p = endP 0 (rootP 1) (W.take i)) (0, rootP 1) ?_ (by repeat (first | exact Sub.nil | refine Sub.cons rfl ?_)) (by repeat (first | exact Pick.nil | exact Take.here | apply Pick.cons | apply Take.there)) ?_
            · exact ⟨Nat.zero_le _, rfl⟩
            · rintro ⟨i, p⟩ ⟨hi, hp⟩
              dsimp only at hi hp ⊢
              have hsp : Chain (mem l2) 0 (rootP 1) false (W.take i ++ W.drop i) := by rw [List.take_append_drop]; exact hch
              obtain ⟨mk', hc1, _⟩ := Chain.append hsp
              rw [← hp] at hc1
              refine W_seq ?_
              refine W_seq ?_
              refine W_reg rfl ?_
              refine O_qs (q_move rfl) ?_
              refine O_qs (q_move rfl) ?_
              refine O_qs (q_len Try.runUnderlying65 rfl) ?_
              refine O_qs (q_lss rfl rfl) ?_
              refine O_nil ?_
              refine W_cond rfl ?_ ?_
              · intro hc
                have hlt : i < W.length := by simpa using hc
                obtain ⟨g2, gc, e2⟩ := hWr.ptr (by omega)
                simp only [Value.slice.injEq, true_and] at e2
                obtain ⟨rfl, rfl⟩ := e2
                have hV : W[i]? = some W[i] := List.getElem?_eq_getElem hlt
                have hdr : W.drop i = W[i] :: W.drop (i + 1) := List.drop_eq_getElem_cons hlt
                rw [hdr] at hc1
                have htk : W.take (i + 1) = W.take i ++ [W[i]] := by rw [List.take_add_one, hV]; rfl
                generalize W[i] = x at hV hc1 htk
                have hsl := hc1.slot
                simp only [List.head?_cons, Option.map_some, Option.getD_some] at hsl
                refine W_skip ?_
                refine W_seq ?_
                refine W_block ?_
                refine W_seq ?_
                refine W_reg rfl ?_
                refine O_qs (q_move rfl) ?_
                refine O_qs (q_loadN (vs := [_, _, _]) Try.isAgg79 Try.sizeOf79 rfl (rd_range (by repeat (first | exact List.Mem.head _ | apply List.Mem.tail)) rfl)) ?_
                refine O_qs (q_cf Try.call30 rfl (fun wd hwd => (world_Peek _ A wb k l2 p hA)) (by repeat (first | exact Pick.nil | exact Take.here | apply Pick.cons | apply Take.there))) ?_
                refine O_qs (q_assign rfl) ?_
                refine O_nil ?_
                refine W_seq ?_
                refine W_seq ?_
                refine W_draw [[], [0], [], [], [2, 3], [2, 3, 4], [2, 3, 4, 5], [0, 1, 2, 3, 4, 5, 6]] rfl rfl rfl ?_
                refine V.qs 0 rfl rfl (q_move rfl) ?_
                refine V.qs 2 rfl rfl (q_move rfl) ?_
                refine V.qs 3 rfl rfl (q_move rfl) ?_
                refine V.qs 4 rfl rfl (q_ian Try.runUnderlying65 Try.sizeOf74 rfl rfl hlt) ?_
                refine V.qs 5 rfl rfl (q_fa fa_74_0 rfl) ?_
                refine V.qs 6 rfl rfl (q_load Try.isAgg3 rfl (hWr.rd (by repeat (first | exact List.Mem.head _ | apply List.Mem.tail)) hV (j := 0) rfl (by show 0 + i * 4 + 0 = _; simp [layN]))) ?_
                refine V.qs 1 rfl rfl (q_cf Try.call31 rfl (fun wd hwd => (link_Slot _ (mem l2 p) (hA.wds.mem p))) (by repeat (first | exact Pick.nil | exact Take.here | apply Pick.cons | apply Take.there))) ?_
                refine V.qs 7 rfl rfl (q_neq rfl rfl) ?_
                refine V.fin rfl ?_
                rw [hsl]
                refine W_fa rfl ((by simp)) ?_
                refine W_skip ?_
                refine W_reg rfl ?_
                refine O_qs (q_move rfl) ?_
                refine O_qs (q_move rfl) ?_
                refine O_qs (q_ian Try.runUnderlying65 Try.sizeOf74 rfl rfl hlt) ?_
                refine O_qs (q_fa fa_74_0 rfl) ?_
                refine O_qs (q_load Try.isAgg3 rfl (hWr.rd (by repeat (first | exact List.Mem.head _ | apply List.Mem.tail)) hV (j := 0) rfl (by show 0 + i * 4 + 0 = _; simp [layN]))) ?_
                refine O_qs (q_cf Try.call32 rfl (fun wd hwd => (place_Link _ x.slot 0 (by decide))) (by repeat (first | exact Pick.nil | exact Take.here | apply Pick.cons | apply Take.there))) ?_
                refine O_en (e_storeN (vs := [_, _, _]) Try.sizeOf79 rfl rfl rfl (by repeat (first | exact Upd.here | apply Upd.there)) rfl (by simp only [setAll, List.setIfInBounds_toArray, List.set_cons_succ, List.set_cons_zero, Nat.reduceAdd, Nat.zero_add] <;> rfl)) ?_
                rintro _ _ ⟨rfl, rfl⟩
                refine O_nil ?_
                refine W_reg rfl ?_
                refine O_qs (q_move rfl) ?_
                refine O_qs (q_add (c := ((i + 1 : Nat) : Int)) (w64' (by omega) (by omega)) rfl rfl) ?_
                refine O_qs (q_assign rfl) ?_
                refine O_nil ?_
                refine ⟨(i + 1, cellP x.slot (7 + 0)), _, ?_, ?_, (by repeat (first | exact Sub.nil | refine Sub.cons rfl ?_)), (by repeat (first | exact Pick.nil | exact Take.here | apply Pick.cons | apply Take.there))⟩
                · exact ⟨hlt, by rw [htk, endP_snoc]⟩
                · dsimp only; omega
              · intro hc
                have hiw : W.length ≤ i := by simpa using hc
                rw [List.drop_of_length_le hiw] at hc1
                have hsl := hc1.slot
                simp only [List.head?_nil, Option.map_none, Option.getD_none] at hsl
                refine W_exit ?_
                refine W_seq ?_
                refine W_reg rfl ?_
                refine O_qs (q_move rfl) ?_
                refine O_qs (q_loadN (vs := [_, _, _]) Try.isAgg79 Try.sizeOf79 rfl (rd_range (by repeat (first | exact List.Mem.head _ | apply List.Mem.tail)) rfl)) ?_
                refine O_qs (q_cf Try.call30 rfl (fun wd hwd => (world_Peek _ A wb k l2 p hA)) (by repeat (first | exact Pick.nil | exact Take.here | apply Pick.cons | apply Take.there))) ?_
                refine O_qs (q_cf Try.call31 rfl (fun wd hwd => (link_Slot _ (mem l2 p) (hA.wds.mem p))) (by repeat (first | exact Pick.nil | exact Take.here | apply Pick.cons | apply Take.there))) ?_
                refine O_qs (q_eql rfl rfl) ?_
                refine O_qs (q_assign rfl) ?_
                refine O_nil ?_
                refine W_ret ?_
                rw [hsl]
                refine res1 (c0 := []) rfl rfl (by repeat (first | exact Pick.nil | exact Take.here | apply Pick.cons | apply Take.there)) rfl ?_
                exact ⟨rfl, rfl⟩
end Go.Proofs.Ytaphhhnnplljdaa
