/-
  The anchor of the law of lists; what a laid list is.
-/
import Derived.Test.YtbfplncdmbjjhaaGreatSk6
set_option linter.unusedSimpArgs false
set_option linter.unusedVariables false
namespace Go.Proofs.YtbfplncdmbjjhaaGreat
open Go Go.SL

theorem core_New_ok (B : World) (x : Conf) (hx : x.err = 0) : Ctr Tryz.prog 10 [x.v] B [] (fun u c => ∃ cb qb R v ring k h, QS R v ring k h 0 [] ∧ u = ptr cb ∧ c = [coreA cb qb x 0 ⟨0, 0⟩ 0, qraw qb v h 0, R]) := by
  refine (core_New B x).mono ?_
  rintro u c (⟨h, _⟩ | ⟨_, h⟩)
  · exact absurd hx h
  · exact h

theorem mem_mput' (l : List (Plc × Int)) (p q : Plc) (w : Int) : mem (mput l p w) q = if q = p then w else mem l q := by
  unfold mem
  rw [mget_put]
  split <;> rfl
theorem Wm.mput {l : List (Plc × Int)} (h : Wm l) (p : Plc) {w : Int} (hw : Wd w) : Wm (mput l p w) := by
  intro q
  rw [mem_mput']
  split
  · exact hw
  · exact h q

theorem layGo_keys (e lv : Int) : ∀ (L : List Nd) (at_ : Plc) (mk : Bool) (l : List (Plc × Int)), Keys l → Keys (layGo e lv at_ mk L l)
  | [], at_, mk, l, h => h.put _ _
  | x :: r, at_, mk, l, h => layGo_keys e lv r _ _ _ (((h.put _ _).put _ _).put _ _)
theorem layGo_wm (e lv : Int) : ∀ (L : List Nd) (at_ : Plc) (mk : Bool) (l : List (Plc × Int)), (∀ x, x ∈ L → NdW x) → Wm l → Wm (layGo e lv at_ mk L l)
  | [], at_, mk, l, _, h => h.mput _ (lword_bounds ..)
  | x :: r, at_, mk, l, hx, h => layGo_wm e lv r _ _ _ (fun y hy => hx y (List.mem_cons_of_mem _ hy)) (((h.mput _ (lword_bounds ..)).mput _ (hx x (List.mem_cons_self ..)).1).mput _ (hx x (List.mem_cons_self ..)).2)
theorem layGo_len (e lv : Int) : ∀ (L : List Nd) (at_ : Plc) (mk : Bool) (l : List (Plc × Int)), (layGo e lv at_ mk L l).length ≤ l.length + 3 * L.length + 1
  | [], at_, mk, l => by simpa [layGo] using mput_length l at_ (lword mk 0 e)
  | x :: r, at_, mk, l => by
    have h := layGo_len e lv r (cellP x.slot (7 + lv)) x.mark (mput (mput (mput l at_ (lword mk x.slot e)) (cellP x.slot 3) x.key) (cellP x.slot 4) x.val)
    have h1 := mput_length l at_ (lword mk x.slot e)
    have h2 := mput_length (mput l at_ (lword mk x.slot e)) (cellP x.slot 3) x.key
    have h3 := mput_length (mput (mput l at_ (lword mk x.slot e)) (cellP x.slot 3) x.key) (cellP x.slot 4) x.val
    simp only [layGo, List.length_cons]
    omega

theorem layGo_frame (e lv : Int) : ∀ (L : List Nd) (at_ : Plc) (mk : Bool) (l : List (Plc × Int)) (q : Plc), q ≠ at_ → (∀ x, x ∈ L → q ≠ cellP x.slot 3 ∧ q ≠ cellP x.slot 4 ∧ q ≠ cellP x.slot (7 + lv)) →
    mem (layGo e lv at_ mk L l) q = mem l q
  | [], at_, mk, l, q, h, _ => by rw [layGo, mem_mput', if_neg h]
  | x :: r, at_, mk, l, q, h, hx => by
    obtain ⟨h1, h2, h3⟩ := hx x (List.mem_cons_self ..)
    rw [layGo, layGo_frame e lv r _ _ _ q h3 (fun y hy => hx y (List.mem_cons_of_mem _ hy)), mem_mput', if_neg h2, mem_mput', if_neg h1, mem_mput', if_neg h]

theorem layGo_chain {e lv : Int} (he : 0 ≤ e ∧ e ≤ 1099511627775) (hlv : 0 ≤ lv) : ∀ (L : List Nd) (at_ : Plc) (mk : Bool) (l : List (Plc × Int)), slotsOk L → (∀ s i, at_ = cellP s i → i = 7 + lv ∧ s ∉ L.map (·.slot)) →
    Chain (mem (layGo e lv at_ mk L l)) lv at_ mk L
  | [], at_, mk, l, _, _ => by
    simp only [layGo, Chain]
    rw [mem_mput', if_pos rfl]
    exact ⟨wslot_lword ⟨Int.le_refl _, by decide, he.1, he.2⟩, marked_lword ⟨Int.le_refl _, by decide, he.1, he.2⟩⟩
  | x :: r, at_, mk, l, hs, ha => by
    have hnd := hs.1
    simp only [List.map_cons, List.nodup_cons] at hnd
    have hsr : slotsOk r := ⟨hnd.2, fun y hy => hs.2 y (List.mem_cons_of_mem _ hy)⟩
    have hxs := hs.2 x (List.mem_cons_self ..)
    have hne : ∀ (i : Int), i = 3 ∨ i = 4 ∨ i = 7 + lv → ∀ y, y ∈ r → cellP x.slot i ≠ cellP y.slot 3 ∧ cellP x.slot i ≠ cellP y.slot 4 ∧ cellP x.slot i ≠ cellP y.slot (7 + lv) := by
      intro i _ y hy
      have : x.slot ≠ y.slot := fun e => hnd.1 (by rw [e]; exact List.mem_map.2 ⟨y, hy, rfl⟩)
      refine ⟨fun e => ?_, fun e => ?_, fun e => ?_⟩ <;> (rw [cellP_inj] at e; exact this e.1)
    have hat : ∀ y, y ∈ x :: r → at_ ≠ cellP y.slot 3 ∧ at_ ≠ cellP y.slot 4 ∧ at_ ≠ cellP y.slot (7 + lv) := by
      intro y hy
      refine ⟨fun e => ?_, fun e => ?_, fun e => ?_⟩
      · have := (ha _ _ e).1; omega
      · have := (ha _ _ e).1; omega
      · exact (ha _ _ e).2 (List.mem_map.2 ⟨y, hy, rfl⟩)
    obtain ⟨a3, a4, a7⟩ := hat x (List.mem_cons_self ..)
    simp only [layGo]
    have hF : ∀ q, (∀ y, y ∈ r → q ≠ cellP y.slot 3 ∧ q ≠ cellP y.slot 4 ∧ q ≠ cellP y.slot (7 + lv)) → q ≠ cellP x.slot (7 + lv) → _ := fun q h1 h2 => layGo_frame e lv r (cellP x.slot (7 + lv)) x.mark (mput (mput (mput l at_ (lword mk x.slot e)) (cellP x.slot 3) x.key) (cellP x.slot 4) x.val) q h2 h1
    have hcon : mem (layGo e lv (cellP x.slot (7 + lv)) x.mark r (mput (mput (mput l at_ (lword mk x.slot e)) (cellP x.slot 3) x.key) (cellP x.slot 4) x.val)) at_ = lword mk x.slot e := by
      rw [hF at_ (fun y hy => hat y (List.mem_cons_of_mem _ hy)) a7, mem_mput', if_neg a4, mem_mput', if_neg a3, mem_mput', if_pos rfl]
    refine ⟨?_, ?_, ?_, ?_, ?_⟩
    · rw [hcon]; exact wslot_lword ⟨by omega, hxs.2, he.1, he.2⟩
    · rw [hcon]; exact marked_lword ⟨by omega, hxs.2, he.1, he.2⟩
    · rw [hF _ (hne 3 (.inl rfl)) (by rw [Ne, cellP_inj]; omega), mem_mput', if_neg (by rw [cellP_inj]; omega), mem_mput', if_pos rfl]
    · rw [hF _ (hne 4 (.inr (.inl rfl))) (by rw [Ne, cellP_inj]; omega), mem_mput', if_pos rfl]
    · refine layGo_chain he hlv r _ _ _ hsr fun s i e => ?_
      rw [cellP_inj] at e
      exact ⟨e.2.symm, by rw [← e.1]; exact hnd.1⟩

theorem lay_chain {root lv e : Int} {L : List Nd} {l : List (Plc × Int)} (he : 0 ≤ e ∧ e ≤ 1099511627775) (hlv : 0 ≤ lv) (hs : slotsOk L) : Chain (mem (lay root lv e L l)) lv (rootP root) false L :=
  layGo_chain he hlv L _ _ _ hs (fun s i e => by simp [rootP, cellP] at e)
theorem lay_epoch {root lv e : Int} {L : List Nd} {l : List (Plc × Int)} : mem (lay root lv e L l) epochP = e := by
  unfold lay
  rw [layGo_frame e lv L _ _ _ epochP (by simp [epochP, rootP]) (fun x _ => by simp [epochP, cellP]), mem_mput', if_pos rfl]
theorem lay_keys {root lv e : Int} {L : List Nd} {l : List (Plc × Int)} (h : Keys l) : Keys (lay root lv e L l) := layGo_keys _ _ _ _ _ _ (h.put _ _)
theorem lay_wm {root lv e : Int} {L : List Nd} {l : List (Plc × Int)} (he : 0 ≤ e ∧ e ≤ 1099511627775) (hx : ∀ x, x ∈ L → NdW x) (h : Wm l) : Wm (lay root lv e L l) := layGo_wm _ _ _ _ _ _ hx (h.mput _ ⟨he.1, by omega⟩)
theorem lay_len {root lv e : Int} {L : List Nd} {l : List (Plc × Int)} : (lay root lv e L l).length ≤ l.length + 3 * L.length + 2 := by
  have h1 := layGo_len e lv L (rootP root) false (mput l epochP e)
  have h2 := mput_length l epochP e
  unfold lay
  omega
theorem Wm.nil : Wm [] := fun p => (by decide : Wd 0)

def cf15 : Conf := ⟨2, 1000, 3, 1, 1073741824⟩
theorem law15_conf (B : World) : Ctr Tryz.prog 11 [] B [] (fun u c => u = cf15.v ∧ c = []) := by
  refine Ctr.intro (n := 2) Tryz.func11 rfl Tryz.ntmps11 (Nat.le_of_ble_eq_true rfl) ?_
  refine W_seq ?_
  refine W_reg rfl ?_
  refine O_es (e_alloc (cs := #[.int .i64 0, .int .i64 0, .int .i64 0, .int .i64 0, .int .i64 0]) Tryz.zeroValue38 rfl) ?_
  rintro _ _ ⟨b0, rfl, rfl⟩
  refine O_nil ?_
  refine W_seq ?_
  refine W_reg rfl ?_
  refine O_qs (q_build rfl (bld_38 (cs := [_, _, _, _, _]) rfl)) ?_
  refine O_en (e_storeN (vs := [_, _, _, _, _]) Tryz.sizeOf38 rfl rfl rfl (by repeat (first | exact Upd.here | apply Upd.there)) rfl (by simp only [setAll, List.setIfInBounds_toArray, List.set_cons_succ, List.set_cons_zero, Nat.reduceAdd, Nat.zero_add] <;> rfl)) ?_
  rintro _ _ ⟨rfl, rfl⟩
  refine O_nil ?_
  refine W_ret ?_
  refine resL (c0 := []) rfl (.cell (us := [_, _, _, _, _]) Tryz.isAgg38 Tryz.sizeOf38 rfl (rd_range (by repeat (first | exact List.Mem.head _ | apply List.Mem.tail)) rfl) .nil) (by repeat (first | exact Pick.nil | exact Take.here | apply Pick.cons | apply Take.there)) rfl ?_
  exact ⟨rfl, rfl⟩

/-- A search, step after step, whatever it says. -/
def itM (root key : Int) (vals : Bool) (m0 : Mem) : Nat → Int × SSt × Mem
  | 0 => (0, ⟨false, false, newLane ⟨rootP 0, 0⟩ 0 0 false, 0, 0⟩, m0)
  | n + 1 => let t := (itM root key vals m0 n).2.1.step root key vals (itM root key vals m0 n).2.2
    (t.st, t.s, upd (itM root key vals m0 n).2.2 t.wr)

def L15 : List Nd := [⟨2, 3, 30, false⟩, ⟨1, 4, 0, true⟩, ⟨3, 7, 70, false⟩]
def m15 : Mem := mem (lay 0 0 5 L15 [])
theorem it15_lt : ∀ i, i < 16 → (itM 0 7 true m15 i).1 = 0 := by decide +kernel
theorem it15_st : (itM 0 7 true m15 16).1 = 1 := by decide +kernel
theorem it15_some : (itM 0 7 true m15 16).2.1.some = true := by decide +kernel
theorem it15_found : (itM 0 7 true m15 16).2.1.x.found = true := by decide +kernel
theorem it15_who : (itM 0 7 true m15 16).2.1.x.who = ⟨3, 0⟩ := by decide +kernel
theorem it15_v : (itM 0 7 true m15 16).2.1.x.v.word = 70 := by decide +kernel
theorem it15_at : (itM 0 7 true m15 16).2.1.x.at_.place = cellP 2 7 := by decide +kernel

/-- The search after one more step. -/
theorem SrchIs.found {S : Atom} {sb cb : Nat} {root key : Int} {vals : Bool} {s : SSt} (h : SrchIs S sb cb root key vals s) (hs : s.some = true) : LaneOk s.x ∧ ∃ lb, S = srchA sb cb root key vals (ptr lb) s.on ++ laneA lb cb s.x := by
  rcases h with ⟨h1, _⟩ | ⟨_, h2, h3⟩
  · rw [hs] at h1; cases h1
  · exact ⟨h2, h3⟩

theorem search_Lane_ok (B : World) (sb cb lb : Nat) (root key : Int) (vals on : Bool) (x : Lane) :
    Ctr Tryz.prog 26 [ptr sb] B [srchA sb cb root key vals (ptr lb) on] (fun u c => u = ptr lb ∧ c = [srchA sb cb root key vals (ptr lb) on]) := by
  refine Ctr.intro (n := 9) Tryz.func26 rfl Tryz.ntmps26 (Nat.le_of_ble_eq_true rfl) ?_
  refine W_seq ?_
  refine W_reg rfl ?_
  refine O_qs (q_assign rfl) ?_
  refine O_nil ?_
  refine W_seq ?_
  refine W_seq ?_
  refine W_reg rfl ?_
  refine O_qs (q_move rfl) ?_
  refine O_qs (q_eqnil Tryz.runUnderlying73 rfl rfl) ?_
  refine O_nil ?_
  refine W_false rfl ?_
  refine W_skip ?_
  refine W_seq ?_
  refine W_reg rfl ?_
  refine O_qs (q_move rfl) ?_
  refine O_qs (q_nil rfl) ?_
  refine O_qs (q_fa fa_137_4 rfl) ?_
  refine O_qs (q_load Tryz.isAgg48 rfl (rd_chunk (by repeat (first | exact List.Mem.head _ | apply List.Mem.tail)) rfl)) ?_
  refine O_qs (q_assign rfl) ?_
  refine O_nil ?_
  refine W_ret ?_
  refine res1 (c0 := [srchA sb cb root key vals (ptr lb) on]) rfl rfl (by repeat (first | exact Pick.nil | exact Take.here | apply Pick.cons | apply Take.there)) rfl ?_
  exact ⟨rfl, rfl⟩

theorem cf15_ok : cf15.err = 0 := by decide

theorem law15_awake (B : World) : Ctr Tryz.prog 6 [] B [] (fun u c => u = .bool true ∧ c = []) := by
  have hnw : ∀ x, x ∈ L15 → NdW x := by
    intro x hx
    simp only [L15, List.mem_cons, List.not_mem_nil, or_false] at hx
    rcases hx with rfl | rfl | rfl <;> exact ⟨by decide, by decide⟩
  refine Ctr.intro (n := 65) Tryz.func6 rfl Tryz.ntmps6 (Nat.le_of_ble_eq_true rfl) ?_
  refine W_seq ?_
  refine W_reg rfl ?_
  refine O_qs (q_assign rfl) ?_
  refine O_nil ?_
  refine W_seq ?_
  refine W_reg rfl ?_
  refine O_qs (q_build rfl (bld_29 (cs := [_]) rfl)) ?_
  refine O_es (e_box (cs := #[_]) rfl rfl) ?_
  rintro _ _ ⟨b9, rfl, rfl⟩
  refine O_qs (q_assign rfl) ?_
  refine O_nil ?_
  refine W_seq ?_
  refine W_conv (ctx' := [oraw b9 (.slice none 0 0), []]) rfl ?_
  refine W_reg rfl ?_
  refine O_qs (q_move rfl) ?_
  refine O_qs (q_build rfl (bld_105 (cs := [_, _, _, _]) rfl)) ?_
  refine O_qs (q_build rfl (bld_105 (cs := [_, _, _, _]) rfl)) ?_
  refine O_qs (q_build rfl (bld_105 (cs := [_, _, _, _]) rfl)) ?_
  refine O_es (e_bslice (zl := [.int .i64 0, .int .u64 0, .int .u64 0, .bool false, .int .i64 0, .int .u64 0, .int .u64 0, .bool false, .int .i64 0, .int .u64 0, .int .u64 0, .bool false]) (cs := [_, _, _, _, _, _, _, _, _, _, _, _]) Tryz.runUnderlying22 Tryz.sizeOf105 Tryz.zeroValue105 rfl (by kernel_rfl) rfl rfl) ?_
  rintro _ _ ⟨b14, rfl, rfl⟩
  have hN : Row layN 105 [(b14, .cells (layN.all L15).toArray 105 (0, 0))] (.slice (some ⟨b14, 0, none⟩) 3 3) L15 := .inr ⟨b14, 3, _, rfl, rfl, Nat.le_refl _, by decide, rfl, rfl⟩
  refine O_es (e_cf Tryz.call7 rfl (fun wd hwd => (ref15_Lay _ b9 [] (.slice none 0 0) [] 0 0 5 _ _ L15 hN (Row.nil ..) (by decide) (by decide) (by decide) (by decide))) (by repeat (first | exact Pick.nil | exact Take.here | apply Pick.cons | apply Take.there))) ?_
  rintro _ _ ⟨_, ⟨R1, v1, hR1, rfl, rfl⟩, rfl⟩
  refine O_nil ?_
  refine W_seq ?_
  refine W_reg rfl ?_
  refine O_qs (q_move rfl) ?_
  refine O_es (e_cf Tryz.call9 rfl (fun wd hwd => (law15_laid _ b9 R1 v1 _ hR1 (by decide +kernel) (lay_keys List.nodup_nil) (lay_wm (by decide) hnw Wm.nil))) (by repeat (first | exact Pick.nil | exact Take.here | apply Pick.cons | apply Take.there))) ?_
  rintro _ _ ⟨_, ⟨wb, A, k, l2, hA, hm, rfl, rfl⟩, rfl⟩
  refine O_qs (q_assign rfl) ?_
  refine O_nil ?_
  refine W_seq ?_
  refine W_reg rfl ?_
  have hmf : mem l2 = m15 := funext hm
  refine O_qs (q_cf Tryz.call11 rfl (fun wd hwd => (law15_conf _)) (by repeat (first | exact Pick.nil | exact Take.here | apply Pick.cons | apply Take.there))) ?_
  refine O_es (e_cf Tryz.call10 rfl (fun wd hwd => (core_New_ok _ cf15 cf15_ok)) (by repeat (first | exact Pick.nil | exact Take.here | apply Pick.cons | apply Take.there))) ?_
  rintro _ _ ⟨_, ⟨cb, qb, Q, qv, ring, qk, qh, hq, rfl, rfl⟩, rfl⟩
  refine O_es (e_cf Tryz.call25 rfl (fun wd hwd => (seek_NewSearch _ cb 0 7 true (itM 0 7 true m15 0).2.1 rfl rfl)) (by repeat (first | exact Pick.nil | exact Take.here | apply Pick.cons | apply Take.there))) ?_
  rintro _ _ ⟨_, ⟨sb, S, hS, rfl, rfl⟩, rfl⟩
  refine O_qs (q_assign rfl) ?_
  refine O_nil ?_
  refine W_seq ?_
  refine W_reg rfl ?_
  refine O_qs (q_assign rfl) ?_
  refine O_nil ?_
  refine W_seq ?_
  refine W_reg rfl ?_
  refine O_qs (q_assign rfl) ?_
  refine O_nil ?_
  refine W_seq ?_
  refine W_seq ?_
  refine W_reg rfl ?_
  refine O_qs (q_assign rfl) ?_
  refine O_nil ?_
  refine W_block ?_
  refine W_loopD (fun (d : Nat × Atom × Atom × Count × List (Plc × Int)) => [(6, .int .i64 (d.1 : Int)), (5, .int .i64 (itM 0 7 true m15 d.1).1), (4, .int .i64 (d.1 : Int)), (3, ptr sb), (2, ptr wb)]) (fun (i, S, A, k, l2) => [S, coreA cb qb cf15 (itM 0 7 true m15 i).2.1.e ⟨0, 0⟩ (itM 0 7 true m15 i).2.1.r, A]) (fun d => 16 - d.1) (fun (i, S, A, k, l2) => i ≤ 16 ∧ SrchIs S sb cb 0 7 true (itM 0 7 true m15 i).2.1 ∧ PlainIs A wb l2 k ∧ mem l2 = (itM 0 7 true m15 i).2.2) (0, S, A, k, l2) ?_ (by repeat (first | exact Sub.nil | refine Sub.cons rfl ?_)) (by repeat (first | exact Pick.nil | exact Take.here | apply Pick.cons | apply Take.there)) ?_
  · exact ⟨Nat.zero_le _, hS, hA, hmf⟩
  · rintro ⟨i, S, A, k, l2⟩ ⟨hi, hS, hA, hm⟩
    dsimp only at hi hS hA hm ⊢
    refine W_seq ?_
    refine W_seq ?_
    refine W_reg rfl ?_
    refine O_qs (q_move rfl) ?_
    refine O_qs (q_lss rfl rfl) ?_
    refine O_qs (q_move rfl) ?_
    refine O_qs (QY.cond0 rfl rfl rfl (fun H => q_move rfl)) ?_
    refine O_qs (QY.cond0 rfl rfl rfl (fun H => q_eql (gvh rfl H) rfl)) ?_
    refine O_qs (q_and rfl rfl rfl) ?_
    refine O_nil ?_
    refine W_cond rfl ?_ ?_
    · intro hc
      have hlt : i < 16 := by
        rcases Nat.lt_or_ge i 16 with h | h
        · exact h
        · have : i = 16 := by omega
          subst this
          rw [it15_st] at hc
          simp at hc
      refine W_skip ?_
      refine W_seq ?_
      refine W_block ?_
      refine W_seq ?_
      refine W_reg rfl ?_
      refine O_qs (q_move rfl) ?_
      refine O_qs (q_move rfl) ?_
      refine O_qs (q_mkI mki_33 rfl) ?_
      refine O_es (e_cf Tryz.call28 rfl (fun wd hwd => (search_Step _ S sb cb qb 0 7 true (itM 0 7 true m15 i).2.1 cf15 ⟨0, 0⟩ A wb k l2 hS hA)) (by repeat (first | exact Pick.nil | exact Take.here | apply Pick.cons | apply Take.there))) ?_
      rintro _ _ ⟨_, ⟨S', A', hS', hA', rfl, rfl⟩, rfl⟩
      refine O_qs (q_assign rfl) ?_
      refine O_nil ?_
      refine W_reg rfl ?_
      refine O_qs (q_move rfl) ?_
      refine O_qs (q_add (c := ((i + 1 : Nat) : Int)) (w64' (by omega) (by omega)) rfl rfl) ?_
      refine O_qs (q_assign rfl) ?_
      refine O_nil ?_
      refine W_reg rfl ?_
      refine O_qs (q_move rfl) ?_
      refine O_qs (q_add (c := ((i + 1 : Nat) : Int)) (w64' (by omega) (by omega)) rfl rfl) ?_
      refine O_qs (q_assign rfl) ?_
      refine O_nil ?_
      have hk := hA.keys
      rw [hm] at hS' ⊢
      refine ⟨(i + 1, S', A', (ldK k (SSt.step 0 7 true (itM 0 7 true m15 i).2.1 (itM 0 7 true m15 i).2.2).ld (SSt.step 0 7 true (itM 0 7 true m15 i).2.1 (itM 0 7 true m15 i).2.2).wr.isSome), (wrl l2 (SSt.step 0 7 true (itM 0 7 true m15 i).2.1 (itM 0 7 true m15 i).2.2).wr)), _, ?_, ?_, (by repeat (first | exact Sub.nil | refine Sub.cons rfl ?_)), (by repeat (first | exact Pick.nil | exact Take.here | apply Pick.cons | apply Take.there))⟩
      · rw [hm] at hA'
        refine ⟨hlt, hS', hA', ?_⟩
        dsimp only
        rw [mem_wrl hk, hm]
        rfl
      · dsimp only; omega
    · intro hc
      have hi16 : i = 16 := by
        rcases Nat.lt_or_ge i 16 with h | h
        · rw [it15_lt i h] at hc
          simp at hc
          omega
        · omega
      subst hi16
      have hst := it15_st
      have hsome := it15_some
      have hf := it15_found
      have hw := it15_who
      have hv := it15_v
      have ha := it15_at
      generalize (itM 0 7 true m15 16).2.1 = s at hS hsome hf hw hv ha ⊢
      rw [hst]
      obtain ⟨hok, lb, rfl⟩ := hS.found hsome
      refine W_exit ?_
      refine W_seq ?_
      refine W_conv (ctx' := [srchA sb cb 0 7 true (ptr lb) s.on, laneA lb cb s.x, coreA cb qb cf15 s.e ⟨0, 0⟩ s.r, A]) rfl ?_
      refine W_reg rfl ?_
      refine O_qs (q_move rfl) ?_
      refine O_qs (q_cf Tryz.call26 rfl (fun wd hwd => (search_Lane_ok _ sb cb lb 0 7 true s.on s.x)) (by repeat (first | exact Pick.nil | exact Take.here | apply Pick.cons | apply Take.there))) ?_
      refine O_qs (q_assign rfl) ?_
      refine O_nil ?_
      refine W_seq ?_
      refine W_reg rfl ?_
      refine O_qs (q_move rfl) ?_
      refine O_qs (q_eql rfl rfl) ?_
      refine O_qs (q_move rfl) ?_
      refine O_qs (QY.cond0 rfl rfl rfl (fun H => q_move rfl)) ?_
      refine O_qs (QY.cond0 rfl rfl rfl (fun H => q_eql (gvh rfl H) rfl)) ?_
      refine O_qs (q_and rfl rfl rfl) ?_
      refine O_qs (q_move rfl) ?_
      refine O_qs (QY.guard rfl rfl rfl (q_move rfl)) ?_
      refine O_qs (QY.guard rfl rfl rfl (q_cf Tryz.call19 rfl (fun wd hwd => (lane_Found _ lb cb s.x)) (by repeat (first | exact Pick.nil | exact Take.here | apply Pick.cons | apply Take.there)))) ?_
      refine O_qs (q_pick_t rfl rfl) ?_
      rw [hf]
      refine O_qs (q_move rfl) ?_
      refine O_qs (QY.guard rfl rfl rfl (q_move rfl)) ?_
      refine O_qs (QY.guard rfl rfl rfl (q_cf Tryz.call20 rfl (fun wd hwd => (lane_Who _ lb cb s.x)) (by repeat (first | exact Pick.nil | exact Take.here | apply Pick.cons | apply Take.there)))) ?_
      refine O_qs (QY.guard rfl rfl rfl (q_build rfl (bld_65 (cs := [_, _]) rfl))) ?_
      refine O_qs (QY.guard rfl rfl rfl (q_bin eql_65 rfl rfl)) ?_
      refine O_qs (q_pick_t rfl rfl) ?_
      obtain ⟨w1, w2⟩ : s.x.who.slot = 3 ∧ s.x.who.id = 0 := by rw [hw]; exact ⟨rfl, rfl⟩
      rw [w1, w2]
      refine O_qs (q_move rfl) ?_
      refine O_qs (QY.guard rfl rfl rfl (q_move rfl)) ?_
      refine O_qs (QY.guard rfl rfl rfl (q_cf Tryz.call32 rfl (fun wd hwd => (lane_Val _ lb cb s.x)) (by repeat (first | exact Pick.nil | exact Take.here | apply Pick.cons | apply Take.there)))) ?_
      refine O_qs (QY.guard rfl rfl rfl (q_eql rfl rfl)) ?_
      refine O_qs (q_pick_t rfl rfl) ?_
      rw [hv]
      refine O_qs (q_move rfl) ?_
      refine O_qs (QY.guard rfl rfl rfl (q_move rfl)) ?_
      refine O_qs (QY.guard rfl rfl rfl (q_cf Tryz.call21 rfl (fun wd hwd => (lane_At _ lb cb s.x)) (by repeat (first | exact Pick.nil | exact Take.here | apply Pick.cons | apply Take.there)))) ?_
      obtain ⟨a1, a2, a3⟩ : s.x.at_.place.kind = 5 ∧ s.x.at_.place.slot = 2 ∧ s.x.at_.place.part = 7 := by rw [ha]; exact ⟨rfl, rfl, rfl⟩
      have hav : s.x.at_.v = .agg #[.int .i64 5, .int .i64 2, .int .i64 7, .int .i64 s.x.at_.id] := by simp only [At.v, a1, a2, a3]
      rw [hav]
      refine O_qs (QY.guard rfl rfl rfl (q_field (fd_54_0 rfl) rfl)) ?_
      refine O_qs (QY.guard rfl rfl rfl (q_cf Tryz.call49 rfl (fun wd hwd => (place_Link _ 2 0 (by decide))) (by repeat (first | exact Pick.nil | exact Take.here | apply Pick.cons | apply Take.there)))) ?_
      refine O_qs (QY.guard rfl rfl rfl (q_bin eql_51 rfl rfl)) ?_
      refine O_qs (q_pick_t rfl rfl) ?_
      refine O_qs (q_assign rfl) ?_
      refine O_nil ?_
      refine W_ret ?_
      refine res1 (c0 := []) rfl rfl (by repeat (first | exact Pick.nil | exact Take.here | apply Pick.cons | apply Take.there)) rfl ?_
      exact ⟨rfl, rfl⟩
end Go.Proofs.YtbfplncdmbjjhaaGreat
