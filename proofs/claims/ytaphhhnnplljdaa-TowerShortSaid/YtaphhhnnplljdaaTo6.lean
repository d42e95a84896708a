/-
  The law of levels.
-/
import Derived.Test.YtaphhhnnplljdaaTo5
set_option linter.unusedSimpArgs false
set_option linter.unusedVariables false
namespace Go.Proofs.Ytaphhhnnplljdaa
open Go Go.SL

theorem map_set_same {α β : Type} (f : α → β) {S : List α} {i : Nat} {z z' : α} (h : S[i]? = some z) (e : f z' = f z) : (S.set i z').map f = S.map f := by
  rw [List.map_set, e]
  apply List.ext_getElem?
  intro j
  rw [List.getElem?_set]
  split
  · rename_i e2
    subst e2
    rw [List.getElem?_map, h]
    have := (List.getElem?_eq_some_iff.1 h).1
    simp [this]
  · rfl

theorem GoodT.zero {h : Nat} {S : List NdT} {i : Nat} {z : NdT} (hz : S[i]? = some z) (g : GoodT h S) : GoodT h (S.set i { z with marks := 0 }) := by
  have hmem : ∀ x, x ∈ S.set i { z with marks := 0 } → ∃ y, y ∈ S ∧ y.slot = x.slot ∧ y.key = x.key ∧ y.top = x.top := by
    intro x hx
    rcases List.mem_or_eq_of_mem_set hx with hx | rfl
    · exact ⟨x, hx, rfl, rfl, rfl⟩
    · exact ⟨z, List.mem_of_getElem? hz, rfl, rfl, rfl⟩
  refine ⟨by rw [map_set_same (·.slot) hz (by rfl)]; exact g.nd, by rw [map_set_same (·.key) hz (by rfl)]; exact g.kd, fun x hx => ?_, fun x hx => ?_, fun x hx => ?_, by simpa using g.le⟩
  · obtain ⟨y, hy, e, _, _⟩ := hmem x hx; rw [← e]; exact g.sl y hy
  · obtain ⟨y, hy, _, e, _⟩ := hmem x hx; rw [← e]; exact g.wd y hy
  · obtain ⟨y, hy, _, _, e⟩ := hmem x hx; rw [← e]; exact g.tp y hy

theorem vis_le (key : Int) : ∀ L : List Nd, vis key L ≤ L.length
  | [] => Nat.le_refl _
  | y :: r => by
    unfold vis
    have := vis_le key r
    split <;> simp <;> omega
theorem restOf_len (L : List Nd) (d : Option Nd) : (restOf L d).length ≤ L.length := by
  cases d with
  | none => exact Nat.le_refl _
  | some z => exact (List.dropWhile_sublist _).length_le
theorem tot_le {key : Int} {S : List NdT} (hS : S.length ≤ 30) : ∀ (k : Nat) (d : Option Nd), tot key S k d ≤ 122 * k
  | 0, _ => Nat.le_refl _
  | k + 1, d => by
    unfold tot
    have h1 := tot_le (key := key) hS k (nextD key (lvl k S) d)
    have h2 := vis_le key (restOf (lvl (k : Int) S) d)
    have h3 := restOf_len (lvl (k : Int) S) d
    have h4 := @lvl_len (k : Int) S
    omega

def dk (d : Option Nd) : Int := (d.map (·.key)).getD 0
theorem skip_eq (d : Option Nd) (y : Nd) : (d.isSome && decide (y.key ≤ dk d)) = skipD d y := by
  cases d <;> simp [skipD, dk] <;> rfl

def NdTW (x : NdT) : Prop := Wd x.key

theorem law18_TowerShort (B : World) (sa : Option Addr) (cap : Nat) (L : List NdT) (height key : Int) (hb : BaseRow layT B sa L) (hL : L.length ≤ 9223372036854775807) (hw : ∀ x, x ∈ L → Wd x.key) :
    Ctr Try.prog 6 [.slice sa L.length cap, .int .i64 height, .int .u64 key] B [] (fun u c => u = .bool true ∧ c = []) := by
  obtain ⟨h, hq, hh⟩ : ∃ h : Nat, (IntKind.u64.wrap height).tmod 16 = ((h - 1 : Nat) : Int) ∧ 1 ≤ h ∧ h ≤ 16 := by
    have ub : 0 ≤ IntKind.u64.wrap height := by
      show 0 ≤ height % 18446744073709551616
      omega
    obtain ⟨n, hn⟩ := Int.eq_ofNat_of_zero_le ub
    rw [hn]
    refine ⟨n % 16 + 1, ?_, by omega⟩
    show Int.tmod (n : Int) 16 = _
    rw [Int.tmod_eq_emod_of_nonneg (by omega)]
    simp
  refine Ctr.intro (n := 135) Try.func6 rfl Try.ntmps6 (Nat.le_of_ble_eq_true rfl) ?_
  refine W_seq ?_
  refine W_reg rfl ?_
  refine O_qs (q_assign rfl) ?_
  refine O_nil ?_
  refine W_seq ?_
  refine W_seq ?_
  refine W_reg rfl ?_
  refine O_qs (q_cf Try.call39 rfl (fun wd hwd => (law18_awake _)) (by repeat (first | exact Pick.nil | exact Take.here | apply Pick.cons | apply Take.there))) ?_
  refine O_qs (q_not rfl) ?_
  refine O_nil ?_
  refine W_false rfl ?_
  refine W_skip ?_
  refine W_seq ?_
  refine W_reg rfl ?_
  refine O_qs (q_move rfl) ?_
  refine O_qs (q_conv (c := IntKind.u64.wrap height) Try.runUnderlying3 Try.runUnderlying85 rfl rfl) ?_
  refine O_qs (q_rem (by decide) hq rfl rfl) ?_
  refine O_qs (q_conv (c := ((h - 1 : Nat) : Int)) Try.runUnderlying85 Try.runUnderlying3 (w64 (by omega)) rfl) ?_
  refine O_qs (q_add (c := (h : Int)) (w64' (by omega) (by omega)) rfl rfl) ?_
  refine O_qs (q_assign rfl) ?_
  refine O_nil ?_
  refine W_seq ?_
  refine W_reg rfl ?_
  refine O_qs (q_move rfl) ?_
  refine O_qs (q_move rfl) ?_
  refine O_es (e_cf Try.call40 rfl (fun wd hwd => (law18_nodes _ sa L.length cap h L rfl (hb.still hwd) hL hw hh)) (by repeat (first | exact Pick.nil | exact Take.here | apply Pick.cons | apply Take.there))) ?_
  rintro _ _ ⟨_, ⟨N0, S0, hN0, hG0, hO0, rfl⟩, rfl⟩
  refine O_qs (q_assign rfl) ?_
  refine O_nil ?_
  refine W_seq ?_
  refine W_seq ?_
  refine W_reg rfl ?_
  refine O_qs (q_assign rfl) ?_
  refine O_nil ?_
  refine W_block ?_
  obtain ⟨na, nc, rfl⟩ := hN0.len
  have hr0 := hG0.rise hO0
  generalize hnn : S0.length = nn at hN0 ⊢
  have hn30 : nn ≤ 30 := by rw [← hnn]; exact hG0.le
  refine W_loopD (fun (d : Nat × Atom × List NdT) => [(9, .int .i64 (d.1 : Int)), (8, .slice na nn nc), (7, .int .i64 (h : Int)), (2, .int .u64 key)]) (fun (_, N, _) => [N]) (fun d => nn - d.1) (fun (i, N, S) => i ≤ nn ∧ S.length = nn ∧ Row layT 98 N (.slice na nn nc) S ∧ GoodT h S ∧ S.Pairwise (fun a b => a.key < b.key) ∧ ∀ j z, j < i → S[j]? = some z → z.marks = 0) (0, N0, S0) ?_ (by repeat (first | exact Sub.nil | refine Sub.cons rfl ?_)) (by repeat (first | exact Pick.nil | exact Take.here | apply Pick.cons | apply Take.there)) ?_
  · exact ⟨Nat.zero_le _, hnn, hN0, hG0, hr0, fun j z hj => by omega⟩
  · clear hN0 hG0 hO0 hr0
    rintro ⟨i, N, S⟩ ⟨hi, hSl, hN, hG, hr, hz0⟩
    dsimp only at hi hSl hN hG hr hz0 ⊢
    refine W_seq ?_
    refine W_seq ?_
    refine W_reg rfl ?_
    refine O_qs (q_move rfl) ?_
    refine O_qs (q_move rfl) ?_
    refine O_qs (q_len Try.runUnderlying95 rfl) ?_
    refine O_qs (q_lss rfl rfl) ?_
    refine O_nil ?_
    refine W_cond rfl ?_ ?_
    · intro hc
      have hlt : i < nn := by simpa using hc
      obtain ⟨g, cap3, e⟩ := hN.ptr (by omega)
      simp only [Value.slice.injEq] at e
      obtain ⟨rfl, -, rfl⟩ := e
      have hV : S[i]? = some S[i] := List.getElem?_eq_getElem (by omega)
      generalize S[i] = z at hV
      refine W_skip ?_
      refine W_seq ?_
      refine W_block ?_
      refine W_reg rfl ?_
      refine O_qs (q_move rfl) ?_
      refine O_qs (q_move rfl) ?_
      refine O_qs (q_ian Try.runUnderlying95 Try.sizeOf98 rfl rfl hlt) ?_
      refine O_qs (q_fa fa_98_3 rfl) ?_
      refine O_en (e_storeRow (vs := [.int .i64 0]) (a' := { z with marks := 0 }) (j := 3) Try.sizeOf3 hN (fun _ => (by repeat (first | exact Upd.here | apply Upd.there))) hV rfl (by show 0 + i * 4 + 3 = _; simp [layT]) rfl rfl rfl (Nat.le_of_ble_eq_true rfl)) ?_
      rintro _ _ ⟨N5, hN5, rfl, rfl⟩
      refine O_nil ?_
      refine W_reg rfl ?_
      refine O_qs (q_move rfl) ?_
      refine O_qs (q_add (c := ((i + 1 : Nat) : Int)) (w64' (by omega) (by omega)) rfl rfl) ?_
      refine O_qs (q_assign rfl) ?_
      refine O_nil ?_
      refine ⟨(i + 1, N5, S.set i { z with marks := 0 }), _, ?_, ?_, (by repeat (first | exact Sub.nil | refine Sub.cons rfl ?_)), (by repeat (first | exact Pick.nil | exact Take.here | apply Pick.cons | apply Take.there))⟩
      · refine ⟨hlt, by simpa using hSl, hN5, hG.zero hV, ?_, fun j y hj hy => ?_⟩
        · have h1 : (S.map (·.key)).Pairwise (· < ·) := List.pairwise_map.2 hr
          rw [← map_set_same (·.key) hV (z' := { z with marks := 0 }) rfl] at h1
          exact List.pairwise_map.1 h1
        · rw [List.getElem?_set] at hy
          split at hy
          · split at hy
            · simp at hy; rw [← hy]
            · cases hy
          · rename_i hne
            exact hz0 j y (by dsimp only at hj; omega) hy
      · dsimp only; omega
    · intro hc
      have hil : i = nn := by simp at hc; omega
      subst hil
      have hmk : ∀ z, z ∈ S → z.marks = 0 := fun z hz => by
        obtain ⟨j, hj⟩ := List.getElem?_of_mem hz
        exact hz0 j z (by rw [← hSl]; exact (List.getElem?_eq_some_iff.1 hj).1) hj
      clear hz0
      subst hSl
      obtain ⟨tt, htt⟩ : ∃ tt, tt = 1 + tot key S h none := ⟨_, rfl⟩
      have htt5 : tt ≤ 1953 := by
        have := tot_le (key := key) hn30 h none
        omega
      refine W_exit ?_
      refine W_seq ?_
      refine W_reg rfl ?_
      refine O_qs (q_move rfl) ?_
      refine O_qs (q_move rfl) ?_
      refine O_es (e_cf Try.call41 rfl (fun wd hwd => (law18_laid _ N _ S h hN hG hr hmk hh)) (by repeat (first | exact Pick.nil | exact Take.here | apply Pick.cons | apply Take.there))) ?_
      rintro _ _ ⟨_, ⟨wb, mb, A, k0, l2, hA, hk0, hM, hep, rfl, rfl⟩, rfl⟩
      refine O_qs (q_move rfl) ?_
      refine O_qs (q_extract rfl rfl) ?_
      refine O_qs (q_extract rfl rfl) ?_
      refine O_qs (q_assign rfl) ?_
      refine O_qs (q_assign rfl) ?_
      refine O_nil ?_
      refine W_seq ?_
      refine W_reg rfl ?_
      refine O_qs (q_move rfl) ?_
      refine O_qs (q_cf Try.call43 rfl (fun wd hwd => (law18_skip _ h)) (by repeat (first | exact Pick.nil | exact Take.here | apply Pick.cons | apply Take.there))) ?_
      refine O_es (e_cf Try.call8 rfl (fun wd hwd => (core_New_ok _ (cf18 h) (cf18_ok h (by omega) (by omega)))) (by repeat (first | exact Pick.nil | exact Take.here | apply Pick.cons | apply Take.there))) ?_
      rintro _ _ ⟨_, ⟨cb, qb, Q, qv, ring, qk, qh, hq, rfl, rfl⟩, rfl⟩
      refine O_qs (q_move rfl) ?_
      refine O_es (e_cf Try.call42 rfl (fun wd hwd => (tower_New _ cb qb (cf18 h) 0 ⟨0, 0⟩ 0 key h rfl rfl (by omega))) (by repeat (first | exact Pick.nil | exact Take.here | apply Pick.cons | apply Take.there))) ?_
      rintro _ _ ⟨_, ⟨tb, P, g, hP, rfl, rfl⟩, rfl⟩
      refine O_qs (q_assign rfl) ?_
      refine O_nil ?_
      refine W_seq ?_
      refine W_reg rfl ?_
      refine O_qs (q_assign rfl) ?_
      refine O_nil ?_
      refine W_seq ?_
      refine W_conv (ctx' := [findA tb cb key (.slice (some ⟨g, 0, none⟩) h h) (-1) ++ P, coreA cb qb (cf18 h) 0 ⟨0, 0⟩ 0, qraw qb qv qh 0, Q, N, A]) rfl ?_
      have hT : FindIs (findA tb cb key (.slice (some ⟨g, 0, none⟩) h h) (-1) ++ P) tb cb key h ⟨-1, newLane ⟨rootP 0, 0⟩ 0 0 false, 0, 0⟩ := ⟨P, g, _, hP, by simp, .inl ⟨rfl, rfl⟩⟩
      generalize findA tb cb key (.slice (some ⟨g, 0, none⟩) h h) (-1) ++ P = T at hT ⊢
      refine W_reg rfl ?_
      refine O_qs (q_move rfl) ?_
      refine O_qs (q_cf Try.call17 rfl (fun wd hwd => (world_Count _ A wb k0 l2 hA)) (by repeat (first | exact Pick.nil | exact Take.here | apply Pick.cons | apply Take.there))) ?_
      refine O_es (e_alloc (cs := #[.int .i64 0, .int .i64 0, .int .i64 0, .int .i64 0, .int .i64 0]) Try.zeroValue59 rfl) ?_
      rintro _ _ ⟨b14, rfl, rfl⟩
      refine O_en (e_storeN (vs := [_, _, _, _, _]) Try.sizeOf59 rfl rfl rfl (by repeat (first | exact Upd.here | apply Upd.there)) rfl (by simp only [setAll, List.setIfInBounds_toArray, List.set_cons_succ, List.set_cons_zero, Nat.reduceAdd, Nat.zero_add] <;> rfl)) ?_
      rintro _ _ ⟨rfl, rfl⟩
      refine O_nil ?_
      refine W_seq ?_
      refine W_block ?_
      refine W_loopD (fun (d : (Nat × FS × Nat) × Atom × Atom) => [(13, .int .i64 (d.1.1 : Int)), (14, ptr b14), (12, ptr tb), (10, ptr wb), (8, .slice na S.length nc), (7, .int .i64 (h : Int)), (2, .int .u64 key)]) (fun ((i, f, _), T, A) => [[(b14, .cells #[.int .i64 k0.loads, .int .i64 k0.stores, .int .i64 k0.swaps, .int .i64 k0.failed, .int .i64 k0.adds] 59 (0, 0))], T, coreA cb qb (cf18 h) f.e ⟨0, 0⟩ f.r, A, N]) (fun d => tt - d.1.1) (fun ((i, f, n), T, A) => i + n = tt ∧ FindIs T tb cb key h f ∧ FLeft (mem l2) S key h f n ∧ PlainIs A wb l2 { k0 with loads := (i : Int) }) ((0, ⟨-1, newLane ⟨rootP 0, 0⟩ 0 0 false, 0, 0⟩, tt), T, A) ?_ (by repeat (first | exact Sub.nil | refine Sub.cons rfl ?_)) (by repeat (first | exact Pick.nil | exact Take.here | apply Pick.cons | apply Take.there)) ?_
      · exact ⟨by simp, hT, .inl ⟨by decide, htt⟩, by rw [show ({ k0 with loads := ((0 : Nat) : Int) } : Count) = k0 by cases k0; simp at hk0; simp [hk0]]; exact hA⟩
      · clear hT hA
        rintro ⟨⟨i, f, n⟩, T, A⟩ ⟨hin, hT, hF, hA⟩
        dsimp only at hin hT hF hA ⊢
        obtain ⟨hn1, hwr, hld, hnx⟩ := fleft_step hM hh.1 hep hF
        have hi5 : decide ((i : Int) < 5000) = true := by simp; omega
        refine W_seq ?_
        refine W_seq ?_
        refine W_reg rfl ?_
        refine O_qs (q_move rfl) ?_
        refine O_qs (q_lss rfl rfl) ?_
        rw [hi5]
        refine O_qs (q_move rfl) ?_
        refine O_qs (QY.guard rfl rfl rfl (q_move rfl)) ?_
        refine O_qs (QY.guard rfl rfl rfl (q_move rfl)) ?_
        refine O_qs (QY.guard rfl rfl rfl (q_mkI mki_35 rfl)) ?_
        refine O_es (EY.guard rfl rfl rfl (e_cf Try.call44 rfl (fun wd hwd => (tower_Step _ T tb cb qb key h f (cf18 h) ⟨0, 0⟩ A wb { k0 with loads := (i : Int) } l2 hT (by omega) hA)) (by repeat (first | exact Pick.nil | exact Take.here | apply Pick.cons | apply Take.there)))) ?_
        rintro _ _ ⟨_, ⟨T', A', hT', hA', rfl, rfl⟩, rfl⟩
        refine O_qs (QY.guard rfl rfl rfl (q_neq rfl rfl)) ?_
        refine O_qs (q_pick_t rfl rfl) ?_
        refine O_nil ?_
        generalize f.step h key (mem l2) = t at hwr hld hnx hT' hA' ⊢
        rw [hwr, hld] at hA'
        have hA2 : PlainIs A' wb l2 { k0 with loads := ((i + 1 : Nat) : Int) } := by
          have e : ldK { k0 with loads := (i : Int) } true (none : Option (Plc × Int)).isSome = { k0 with loads := ((i + 1 : Nat) : Int) } := by
            show ({ k0 with loads := inc (i : Int) } : Count) = _
            rw [show inc (i : Int) = ((i + 1 : Nat) : Int) from w64' (by omega) (by omega)]
          rw [← e]
          exact hA'
        refine W_cond rfl ?_ ?_
        · intro hc
          have hs1 : ¬ t.st = 1 := by simpa using hc
          rcases hnx with ⟨_, h2⟩ | ⟨h1, _⟩
          · refine W_skip ?_
            refine W_block ?_
            refine W_reg rfl ?_
            refine O_qs (q_move rfl) ?_
            refine O_qs (q_add (c := ((i + 1 : Nat) : Int)) (w64' (by omega) (by omega)) rfl rfl) ?_
            refine O_qs (q_assign rfl) ?_
            refine O_nil ?_
            refine ⟨((i + 1, t.f, n - 1), T', A'), _, ?_, ?_, (by repeat (first | exact Sub.nil | refine Sub.cons rfl ?_)), (by repeat (first | exact Pick.nil | exact Take.here | apply Pick.cons | apply Take.there))⟩
            · exact ⟨by dsimp only; omega, hT', h2, hA2⟩
            · dsimp only; omega
          · exact absurd h1 hs1
        · intro hc
          have hs1 : t.st = 1 := by simpa using hc
          have hi1 : i + 1 = tt := by
            rcases hnx with ⟨h1, _⟩ | ⟨_, h2⟩
            · omega
            · omega
          rw [hi1] at hA2
          clear hT hA hF hnx hA' hT'
          refine W_exit ?_
          refine W_seq ?_
          refine W_reg rfl ?_
          refine O_qs (q_assign rfl) ?_
          refine O_nil ?_
          refine W_seq ?_
          refine W_reg rfl ?_
          refine O_qs (q_assign rfl) ?_
          refine O_nil ?_
          refine W_seq ?_
          refine W_reg rfl ?_
          refine O_qs (q_assign rfl) ?_
          refine O_nil ?_
          refine W_seq ?_
          refine W_seq ?_
          refine W_reg rfl ?_
          refine O_qs (q_move rfl) ?_
          refine O_qs (q_sub (c := (h : Int) - 1) (w64 (by omega)) rfl rfl) ?_
          refine O_qs (q_assign rfl) ?_
          refine O_nil ?_
          refine W_block ?_
          refine W_loopD (fun (d : (Nat × Int) × Nat × Option Nd) => [(18, .int .i64 d.1.2), (17, .bool d.2.2.isSome), (16, .int .u64 (dk d.2.2)), (15, .int .i64 (d.2.1 : Int)), (14, ptr b14), (10, ptr wb), (8, .slice na S.length nc), (2, .int .u64 key)]) (fun _ => [[(b14, .cells #[.int .i64 k0.loads, .int .i64 k0.stores, .int .i64 k0.swaps, .int .i64 k0.failed, .int .i64 k0.adds] 59 (0, 0))], A', N]) (fun d => d.1.1) (fun ((k, v), s, d) => v = (k : Int) - 1 ∧ k ≤ h ∧ s + tot key S k d = tt) ((h, (h : Int) - 1), 1, none) ?_ (by repeat (first | exact Sub.nil | refine Sub.cons rfl ?_)) (by repeat (first | exact Pick.nil | exact Take.here | apply Pick.cons | apply Take.there)) ?_
          · exact ⟨rfl, Nat.le_refl _, htt.symm⟩
          · rintro ⟨⟨k, v⟩, s, d⟩ ⟨hv, hkh, hst⟩
            dsimp only at hv hkh hst ⊢
            refine W_seq ?_
            refine W_seq ?_
            refine W_reg rfl ?_
            refine O_qs (q_move rfl) ?_
            refine O_qs (q_geq rfl rfl) ?_
            refine O_nil ?_
            refine W_cond rfl ?_ ?_
            · intro hc2
              have hk1 : 1 ≤ k := by simp at hc2; omega
              obtain ⟨k', rfl⟩ : ∃ k', k = k' + 1 := ⟨k - 1, by omega⟩
              obtain rfl : v = (k' : Int) := by omega
              have hrise := lvl_rise hr (k' : Int)
              have hll : (lvl (k' : Int) S).length ≤ 30 := Nat.le_trans lvl_len hn30
              have hfin := cnt_eq (key := key) (d := d) (n := s + 2) (d' := d) hrise
              have htot : s + 2 + 4 * vis key (restOf (lvl (k' : Int) S) d) + tot key S k' (nextD key (lvl (k' : Int) S) d) = tt := by
                rw [← hst]
                simp only [tot]
                omega
              refine W_skip ?_
              refine W_seq ?_
              refine W_block ?_
              refine W_seq ?_
              refine W_reg rfl ?_
              refine O_qs (q_move rfl) ?_
              refine O_qs (q_add (c := ((s + 2 : Nat) : Int)) (w64' (by omega) (by omega)) rfl rfl) ?_
              refine O_qs (q_assign rfl) ?_
              refine O_nil ?_
              refine W_seq ?_
              refine W_reg rfl ?_
              refine O_qs (q_move rfl) ?_
              refine O_qs (q_move rfl) ?_
              refine O_es (e_cf Try.call45 rfl (fun wd hwd => (ref18_Level _ N (.slice na S.length nc) S k' hN (by omega) (by omega) hmk)) (by repeat (first | exact Pick.nil | exact Take.here | apply Pick.cons | apply Take.there))) ?_
              rintro _ _ ⟨_, ⟨M, hMl, rfl⟩, rfl⟩
              refine O_qs (q_assign rfl) ?_
              refine O_nil ?_
              refine W_seq ?_
              obtain ⟨ma, mc, rfl⟩ := hMl.len
              generalize hLL : lvl (k' : Int) S = LL at hrise hll hfin htot hMl ⊢
              refine W_reg rfl ?_
              refine O_qs (q_move rfl) ?_
              refine O_qs (q_assign rfl) ?_
              refine O_nil ?_
              refine W_seq ?_
              refine W_reg rfl ?_
              refine O_qs (q_move rfl) ?_
              refine O_qs (q_assign rfl) ?_
              refine O_nil ?_
              refine W_seq ?_
              refine W_seq ?_
              refine W_reg rfl ?_
              refine O_qs (q_assign rfl) ?_
              refine O_nil ?_
              refine W_block ?_
              refine W_loopD (fun (e : Nat × Nat × Option Nd) => [(22, .int .i64 (e.1 : Int)), (21, .bool d.isSome), (20, .int .u64 (dk e.2.2)), (19, .slice ma LL.length mc), (18, .int .i64 (k' : Int)), (17, .bool e.2.2.isSome), (16, .int .u64 (dk d)), (15, .int .i64 (e.2.1 : Int)), (14, ptr b14), (10, ptr wb), (8, .slice na S.length nc), (2, .int .u64 key)]) (fun _ => [[(b14, .cells #[.int .i64 k0.loads, .int .i64 k0.stores, .int .i64 k0.swaps, .int .i64 k0.failed, .int .i64 k0.adds] 59 (0, 0))], A', N, M]) (fun e => LL.length - e.1) (fun (i, s', d') => i ≤ LL.length ∧ s' ≤ s + 2 + 4 * i ∧ cnt key d (LL.drop i) (s', d') = cnt key d LL (s + 2, d)) (0, s + 2, d) ?_ (by repeat (first | exact Sub.nil | refine Sub.cons rfl ?_)) (by repeat (first | exact Pick.nil | exact Take.here | apply Pick.cons | apply Take.there)) ?_
              · exact ⟨Nat.zero_le _, by omega, rfl⟩
              · rintro ⟨j, s', d'⟩ ⟨hj, hs', hcn⟩
                dsimp only at hj hs' hcn ⊢
                refine W_seq ?_
                refine W_seq ?_
                refine W_reg rfl ?_
                refine O_qs (q_move rfl) ?_
                refine O_qs (q_move rfl) ?_
                refine O_qs (q_len Try.runUnderlying65 rfl) ?_
                refine O_qs (q_lss rfl rfl) ?_
                refine O_nil ?_
                refine W_cond rfl ?_ ?_
                · intro hc3
                  have hlt : j < LL.length := by simpa using hc3
                  obtain ⟨mg, cap3, e⟩ := hMl.ptr (by omega)
                  simp only [Value.slice.injEq, true_and] at e
                  obtain ⟨rfl, rfl⟩ := e
                  have hV : LL[j]? = some LL[j] := List.getElem?_eq_getElem hlt
                  have hdr : LL.drop j = LL[j] :: LL.drop (j + 1) := List.drop_eq_getElem_cons hlt
                  rw [hdr, cnt] at hcn
                  generalize LL[j] = y at hV hcn
                  refine W_skip ?_
                  refine W_seq ?_
                  refine W_block ?_
                  refine W_seq ?_
                  refine W_seq ?_
                  refine W_reg rfl ?_
                  refine O_qs (q_move rfl) ?_
                  refine O_qs (q_move rfl) ?_
                  refine O_qs (QY.cond0 rfl rfl rfl (fun H => q_move rfl)) ?_
                  refine O_qs (QY.cond0 rfl rfl rfl (fun H => q_move rfl)) ?_
                  refine O_qs (QY.cond0 rfl rfl rfl (fun H => q_ian Try.runUnderlying65 Try.sizeOf74 (gvh rfl H) (gvh rfl H) hlt)) ?_
                  refine O_qs (QY.cond0 rfl rfl rfl (fun H => q_fa fa_74_1 (gvh rfl H))) ?_
                  refine O_qs (QY.cond0 rfl rfl rfl (fun H => q_load Try.isAgg41 (gvh rfl H) (hMl.rd (by repeat (first | exact List.Mem.head _ | apply List.Mem.tail)) hV (j := 1) rfl (by show 0 + j * 4 + 1 = _; simp [layN])))) ?_
                  refine O_qs (QY.cond0 rfl rfl rfl (fun H => q_move rfl)) ?_
                  refine O_qs (QY.cond0 rfl rfl rfl (fun H => q_leq (gvh rfl H) (gvh rfl H))) ?_
                  refine O_qs (q_and rfl rfl rfl) ?_
                  refine O_nil ?_
                  refine W_cond rfl ?_ ?_
                  · intro hc4
                    have hsk : skipD d y = true := by rw [← skip_eq]; exact hc4
                    rw [if_pos hsk] at hcn
                    refine W_exit ?_
                    refine W_reg rfl ?_
                    refine O_qs (q_move rfl) ?_
                    refine O_qs (q_add (c := ((j + 1 : Nat) : Int)) (w64' (by omega) (by omega)) rfl rfl) ?_
                    refine O_qs (q_assign rfl) ?_
                    refine O_nil ?_
                    refine ⟨(j + 1, s', d'), _, ?_, ?_, (by repeat (first | exact Sub.nil | refine Sub.cons rfl ?_)), (by repeat (first | exact Pick.nil | exact Take.here | apply Pick.cons | apply Take.there))⟩
                    · exact ⟨hlt, by dsimp only; omega, hcn⟩
                    · dsimp only; omega
                  · intro hc4
                    have hsk : ¬ skipD d y = true := by rw [← skip_eq]; simpa using hc4
                    rw [if_neg hsk] at hcn
                    refine W_skip ?_
                    refine W_seq ?_
                    refine W_reg rfl ?_
                    refine O_qs (q_move rfl) ?_
                    refine O_qs (q_add (c := ((s' + 4 : Nat) : Int)) (w64' (by omega) (by omega)) rfl rfl) ?_
                    refine O_qs (q_assign rfl) ?_
                    refine O_nil ?_
                    refine W_seq ?_
                    refine W_seq ?_
                    refine W_reg rfl ?_
                    refine O_qs (q_move rfl) ?_
                    refine O_qs (q_move rfl) ?_
                    refine O_qs (q_ian Try.runUnderlying65 Try.sizeOf74 rfl rfl hlt) ?_
                    refine O_qs (q_fa fa_74_1 rfl) ?_
                    refine O_qs (q_load Try.isAgg41 rfl (hMl.rd (by repeat (first | exact List.Mem.head _ | apply List.Mem.tail)) hV (j := 1) rfl (by show 0 + j * 4 + 1 = _; simp [layN]))) ?_
                    refine O_qs (q_move rfl) ?_
                    refine O_qs (q_geq rfl rfl) ?_
                    refine O_nil ?_
                    refine W_cond rfl ?_ ?_
                    · intro hc5
                      have hge : key ≤ y.key := by simpa using hc5
                      rw [if_pos hge, hfin] at hcn
                      obtain ⟨h1, h2⟩ := Prod.mk.inj hcn
                      dsimp only at h1 h2
                      refine W_exit ?_
                      refine W_reg rfl ?_
                      refine O_qs (q_move rfl) ?_
                      refine O_qs (q_assign rfl) ?_
                      refine O_nil ?_
                      refine W_reg rfl ?_
                      refine O_qs (q_move rfl) ?_
                      refine O_qs (q_sub (c := (k' : Int) - 1) (w64 (by omega)) rfl rfl) ?_
                      refine O_qs (q_assign rfl) ?_
                      refine O_nil ?_
                      refine ⟨((k', (k' : Int) - 1), s' + 4, d'), _, ?_, ?_, (by repeat (first | exact Sub.nil | refine Sub.cons rfl ?_)), (by repeat (first | exact Pick.nil | exact Take.here | apply Pick.cons | apply Take.there))⟩
                      · refine ⟨rfl, by dsimp only; omega, ?_⟩
                        dsimp only
                        rw [h1, h2]
                        exact htot
                      · dsimp only; omega
                    · intro hc5
                      have hge : ¬ key ≤ y.key := by simpa using hc5
                      rw [if_neg hge] at hcn
                      refine W_skip ?_
                      refine W_seq ?_
                      refine W_reg rfl ?_
                      refine O_qs (q_move rfl) ?_
                      refine O_qs (q_move rfl) ?_
                      refine O_qs (q_ian Try.runUnderlying65 Try.sizeOf74 rfl rfl hlt) ?_
                      refine O_qs (q_fa fa_74_1 rfl) ?_
                      refine O_qs (q_load Try.isAgg41 rfl (hMl.rd (by repeat (first | exact List.Mem.head _ | apply List.Mem.tail)) hV (j := 1) rfl (by show 0 + j * 4 + 1 = _; simp [layN]))) ?_
                      refine O_qs (q_assign rfl) ?_
                      refine O_nil ?_
                      refine W_reg rfl ?_
                      refine O_qs (q_assign rfl) ?_
                      refine O_nil ?_
                      refine W_reg rfl ?_
                      refine O_qs (q_move rfl) ?_
                      refine O_qs (q_add (c := ((j + 1 : Nat) : Int)) (w64' (by omega) (by omega)) rfl rfl) ?_
                      refine O_qs (q_assign rfl) ?_
                      refine O_nil ?_
                      refine ⟨(j + 1, s' + 4, some y), _, ?_, ?_, (by repeat (first | exact Sub.nil | refine Sub.cons rfl ?_)), (by repeat (first | exact Pick.nil | exact Take.here | apply Pick.cons | apply Take.there))⟩
                      · exact ⟨hlt, by dsimp only; omega, hcn⟩
                      · dsimp only; omega
                · intro hc3
                  have hjl : j = LL.length := by simp at hc3; omega
                  rw [hjl, List.drop_length, cnt, hfin] at hcn
                  obtain ⟨h1, h2⟩ := Prod.mk.inj hcn
                  refine W_exit ?_
                  refine W_reg rfl ?_
                  refine O_qs (q_move rfl) ?_
                  refine O_qs (q_assign rfl) ?_
                  refine O_nil ?_
                  refine W_reg rfl ?_
                  refine O_qs (q_move rfl) ?_
                  refine O_qs (q_sub (c := (k' : Int) - 1) (w64 (by omega)) rfl rfl) ?_
                  refine O_qs (q_assign rfl) ?_
                  refine O_nil ?_
                  refine ⟨((k', (k' : Int) - 1), s', d'), _, ?_, ?_, (by repeat (first | exact Sub.nil | refine Sub.cons rfl ?_)), (by repeat (first | exact Pick.nil | exact Take.here | apply Pick.cons | apply Take.there))⟩
                  · refine ⟨rfl, by dsimp only; omega, ?_⟩
                    dsimp only
                    rw [h1, h2]
                    exact htot
                  · dsimp only; omega
            · intro hc2
              have hk0' : k = 0 := by simp at hc2; omega
              subst hk0'
              have hstt : s = tt := by simpa [tot] using hst
              subst hstt
              refine W_exit ?_
              refine W_seq ?_
              refine W_reg rfl ?_
              refine O_qs (q_move rfl) ?_
              refine O_qs (q_cf Try.call17 rfl (fun wd hwd => (world_Count _ A' wb { k0 with loads := (s : Int) } l2 hA2)) (by repeat (first | exact Pick.nil | exact Take.here | apply Pick.cons | apply Take.there))) ?_
              refine O_es (e_alloc (cs := #[.int .i64 0, .int .i64 0, .int .i64 0, .int .i64 0, .int .i64 0]) Try.zeroValue59 rfl) ?_
              rintro _ _ ⟨b23, rfl, rfl⟩
              refine O_en (e_storeN (vs := [_, _, _, _, _]) Try.sizeOf59 rfl rfl rfl (by repeat (first | exact Upd.here | apply Upd.there)) rfl (by simp only [setAll, List.setIfInBounds_toArray, List.set_cons_succ, List.set_cons_zero, Nat.reduceAdd, Nat.zero_add] <;> rfl)) ?_
              rintro _ _ ⟨rfl, rfl⟩
              refine O_nil ?_
              refine W_seq ?_
              refine W_reg rfl ?_
              refine O_qs (q_fa fa_59_0 rfl) ?_
              refine O_qs (q_load Try.isAgg3 rfl (rd_chunk (by repeat (first | exact List.Mem.head _ | apply List.Mem.tail)) rfl)) ?_
              refine O_qs (q_fa fa_59_0 rfl) ?_
              refine O_qs (q_load Try.isAgg3 rfl (rd_chunk (by repeat (first | exact List.Mem.head _ | apply List.Mem.tail)) rfl)) ?_
              refine O_qs (q_sub (c := (s : Int)) (by rw [hk0]; exact w64' (by omega) (by omega)) rfl rfl) ?_
              refine O_qs (q_move rfl) ?_
              refine O_qs (q_eql rfl rfl) ?_
              rw [show decide ((s : Int) = (s : Int)) = true from decide_eq_true rfl]
              refine O_qs (q_move rfl) ?_
              refine O_qs (QY.guard rfl rfl rfl (q_fa fa_59_2 rfl)) ?_
              refine O_qs (QY.guard rfl rfl rfl (q_load Try.isAgg3 rfl (rd_chunk (by repeat (first | exact List.Mem.head _ | apply List.Mem.tail)) rfl))) ?_
              refine O_qs (QY.guard rfl rfl rfl (q_fa fa_59_2 rfl)) ?_
              refine O_qs (QY.guard rfl rfl rfl (q_load Try.isAgg3 rfl (rd_chunk (by repeat (first | exact List.Mem.head _ | apply List.Mem.tail)) rfl))) ?_
              refine O_qs (QY.guard rfl rfl rfl (q_eql rfl rfl)) ?_
              refine O_qs (q_pick_t rfl rfl) ?_
              rw [show decide (k0.swaps = k0.swaps) = true from decide_eq_true rfl]
              refine O_qs (q_move rfl) ?_
              refine O_qs (QY.guard rfl rfl rfl (q_fa fa_59_1 rfl)) ?_
              refine O_qs (QY.guard rfl rfl rfl (q_load Try.isAgg3 rfl (rd_chunk (by repeat (first | exact List.Mem.head _ | apply List.Mem.tail)) rfl))) ?_
              refine O_qs (QY.guard rfl rfl rfl (q_fa fa_59_1 rfl)) ?_
              refine O_qs (QY.guard rfl rfl rfl (q_load Try.isAgg3 rfl (rd_chunk (by repeat (first | exact List.Mem.head _ | apply List.Mem.tail)) rfl))) ?_
              refine O_qs (QY.guard rfl rfl rfl (q_eql rfl rfl)) ?_
              refine O_qs (q_pick_t rfl rfl) ?_
              refine O_qs (q_assign rfl) ?_
              refine O_nil ?_
              refine W_ret ?_
              rw [show decide (k0.stores = k0.stores) = true from decide_eq_true rfl]
              refine res1 (c0 := []) rfl rfl (by repeat (first | exact Pick.nil | exact Take.here | apply Pick.cons | apply Take.there)) rfl ?_
              exact ⟨rfl, rfl⟩
end Go.Proofs.Ytaphhhnnplljdaa
