/-
  Walks: a list laid into the document's memory.
-/
import Derived.Test.YtbfplncdmbjjhaaGreatSk4
set_option linter.unusedSimpArgs false
set_option linter.unusedVariables false
namespace Go.Proofs.YtbfplncdmbjjhaaGreat
open Go Go.SL

def Nd.l (x : Nd) : List Value := [.int .i64 x.slot, .int .u64 x.key, .int .u64 x.val, .bool x.mark]
def layN : Lay Nd where
  enc := Nd.l
  size := 4
  pos := by decide
  len := fun _ => rfl
  one := by
    intro a u h
    simp only [Nd.l, List.mem_cons, List.not_mem_nil, or_false] at h
    rcases h with rfl | rfl | rfl | rfl <;> rfl

/-- A list, laid from a place on. -/
def layGo (e lv : Int) : Plc → Bool → List Nd → List (Plc × Int) → List (Plc × Int)
  | at_, mk, [], l => mput l at_ (lword mk 0 e)
  | at_, mk, x :: r, l => layGo e lv (cellP x.slot (7 + lv)) x.mark r (mput (mput (mput l at_ (lword mk x.slot e)) (cellP x.slot 3) x.key) (cellP x.slot 4) x.val)
def lay (root lv e : Int) (L : List Nd) (l : List (Plc × Int)) : List (Plc × Int) := layGo e lv (rootP root) false L (mput l epochP e)

theorem mput_length (l : List (Plc × Int)) (p : Plc) (w : Int) : (mput l p w).length ≤ l.length + 1 := by
  induction l with
  | nil => simp [mput]
  | cons x r ih =>
    obtain ⟨q, u⟩ := x
    simp only [mput]
    split
    · simp
    · simp only [List.length_cons]; omega
theorem lword_unmarked (s e : Int) : marked (lword false s e) = false := by
  unfold lword marked
  split <;> simp <;> omega

theorem ref15_Lay (B : World) (mb : Nat) (R : Atom) (v : Value) (l : List (Plc × Int)) (root lv e : Int) (N : Atom) (u0 : Value) (L : List Nd) (hN : Row layN 105 N u0 L) (hR : Row layO 147 R v l) (hl : l.length ≤ 1000000)
    (hL : L.length ≤ 1000000) (hlv : 0 ≤ lv ∧ lv ≤ 1000000) (he : 0 ≤ e ∧ e ≤ 1099511627775) :
    Ctr Tryz.prog 7 [ptr mb, .int .i64 root, .int .i64 lv, .int .i64 e, u0] B [oraw mb v, R, N]
      (fun u c => ∃ R' v', Row layO 147 R' v' (lay root lv e L l) ∧ u = .tuple #[] ∧ c = [oraw mb v', R', N]) := by
  have hlen0 : ∃ a cap, u0 = .slice a L.length cap := hN.len
  obtain ⟨sa, cap, rfl⟩ := hlen0
  refine Ctr.intro (n := 84) Tryz.func7 rfl Tryz.ntmps7 (Nat.le_of_ble_eq_true rfl) ?_
  refine W_seq ?_
  refine W_reg rfl ?_
  refine O_qs (q_move rfl) ?_
  refine O_qs (q_build rfl (bld_45 (cs := [_, _, _, _, _, _, _, _, _, _]) rfl)) ?_
  refine O_es (e_box (cs := #[_, _, _, _, _, _, _, _, _, _]) rfl rfl) ?_
  rintro _ _ ⟨b18, rfl, rfl⟩
  refine O_qs (q_assign rfl) ?_
  refine O_nil ?_
  refine W_seq ?_
  refine W_reg rfl ?_
  refine O_qs (q_move rfl) ?_
  refine O_qs (q_cf Tryz.call51 rfl (fun wd hwd => (ref13_Epoch _)) (by repeat (first | exact Pick.nil | exact Take.here | apply Pick.cons | apply Take.there))) ?_
  refine O_qs (q_move rfl) ?_
  refine O_qs (q_conv (c := e) Tryz.runUnderlying3 Tryz.runUnderlying23 (wu64 (by omega)) rfl) ?_
  refine O_es (e_cf Tryz.call50 rfl (fun wd hwd => (ref04_Set _ mb R v l epochP e hR (by omega))) (by repeat (first | exact Pick.nil | exact Take.here | apply Pick.cons | apply Take.there))) ?_
  rintro _ _ ⟨_, ⟨R1, v1, hR1, rfl, rfl⟩, rfl⟩
  refine O_nil ?_
  refine W_seq ?_
  refine W_reg rfl ?_
  refine O_qs (q_move rfl) ?_
  refine O_qs (q_build rfl (bld_51 (cs := [_, _, _]) rfl)) ?_
  refine O_es (e_alloc (cs := #[.int .i64 0, .int .i64 0, .int .i64 0]) Tryz.zeroValue51 rfl) ?_
  rintro _ _ ⟨b11, rfl, rfl⟩
  refine O_en (e_storeN (vs := [_, _, _]) Tryz.sizeOf51 rfl rfl rfl (by repeat (first | exact Upd.here | apply Upd.there)) rfl (by simp only [setAll, List.setIfInBounds_toArray, List.set_cons_succ, List.set_cons_zero, Nat.reduceAdd, Nat.zero_add] <;> rfl)) ?_
  rintro _ _ ⟨rfl, rfl⟩
  refine O_nil ?_
  refine W_seq ?_
  refine W_reg rfl ?_
  refine O_qs (q_assign rfl) ?_
  refine O_nil ?_
  refine W_seq ?_
  refine W_reg rfl ?_
  refine O_qs (q_assign rfl) ?_
  refine O_nil ?_
  refine W_block ?_
  have hl1 : (mput l epochP e).length ≤ l.length + 1 := mput_length ..
  refine W_loopD (fun (d : Nat × Plc × Bool × Atom × Value × List (Plc × Int)) => [(13, .int .i64 (d.1 : Int)), (12, .bool d.2.2.1), (11, ptr b11), (10, ptr b18), (4, .slice sa L.length cap), (2, .int .i64 lv), (0, ptr mb)]) (fun (_, at_, _, R, v, _) => [oraw mb v, R, N, [(b11, .cells (Plc.l at_).toArray 51 (0, 0))], uraw b18 ⟨0, 0, 0, 0, 0⟩ e (.slice none 0 0) 0 0 0]) (fun d => L.length + 1 - d.1) (fun (i, at_, mk, R, v, l') => Row layO 147 R v l' ∧ (i ≤ L.length ∧ l'.length ≤ l.length + 1 + 3 * i ∧ lay root lv e L l = layGo e lv at_ mk (L.drop i) l' ∨ i = L.length + 1 ∧ lay root lv e L l = l')) (0, rootP root, false, R1, v1, mput l epochP e) ?_ (by repeat (first | exact Sub.nil | refine Sub.cons rfl ?_)) (by repeat (first | exact Pick.nil | exact Take.here | apply Pick.cons | apply Take.there)) ?_
  · exact ⟨hR1, .inl ⟨Nat.zero_le _, by omega, rfl⟩⟩
  · rintro ⟨i, at_, mk, R, v, l'⟩ ⟨hR, hcase⟩
    dsimp only at hR hcase ⊢
    refine W_seq ?_
    refine W_seq ?_
    refine W_reg rfl ?_
    refine O_qs (q_move rfl) ?_
    refine O_qs (q_move rfl) ?_
    refine O_qs (q_len Tryz.runUnderlying22 rfl) ?_
    refine O_qs (q_leq rfl rfl) ?_
    refine O_nil ?_
    refine W_cond rfl ?_ ?_
    · intro hc
      have hi : i ≤ L.length := by simpa using hc
      obtain ⟨_, hl', htot⟩ : i ≤ L.length ∧ l'.length ≤ l.length + 1 + 3 * i ∧ lay root lv e L l = layGo e lv at_ mk (L.drop i) l' := by
        rcases hcase with h | ⟨h, _⟩
        · exact h
        · omega
      refine W_skip ?_
      refine W_seq ?_
      refine W_block ?_
      refine W_seq ?_
      refine W_reg rfl ?_
      refine O_qs (q_assign rfl) ?_
      refine O_nil ?_
      refine W_seq ?_
      refine W_seq ?_
      refine W_reg rfl ?_
      refine O_qs (q_move rfl) ?_
      refine O_qs (q_move rfl) ?_
      refine O_qs (q_len Tryz.runUnderlying22 rfl) ?_
      refine O_qs (q_lss rfl rfl) ?_
      refine O_nil ?_
      refine W_cond rfl ?_ ?_
      · intro hc2
        have hlt : i < L.length := by simpa using hc2
        obtain ⟨ab, ac, e1⟩ := hN.ptr (by omega)
        simp only [Value.slice.injEq, true_and] at e1
        obtain ⟨rfl, rfl⟩ := e1
        have hV : L[i]? = some L[i] := List.getElem?_eq_getElem hlt
        have hdr : L.drop i = L[i] :: L.drop (i + 1) := List.drop_eq_getElem_cons hlt
        rw [hdr] at htot
        generalize L[i] = x at hV htot
        simp only [layGo] at htot
        refine W_reg rfl ?_
        refine O_qs (q_move rfl) ?_
        refine O_qs (q_move rfl) ?_
        refine O_qs (q_ian Tryz.runUnderlying22 Tryz.sizeOf105 rfl rfl hlt) ?_
        refine O_qs (q_fa fa_105_0 rfl) ?_
        refine O_qs (q_load Tryz.isAgg3 rfl (hN.rd (by repeat (first | exact List.Mem.head _ | apply List.Mem.tail)) hV (j := 0) rfl (by show 0 + i * 4 + 0 = _; simp [layN]))) ?_
        refine O_qs (q_assign rfl) ?_
        refine O_nil ?_
        refine W_seq ?_
        refine W_reg rfl ?_
        refine O_qs (q_move rfl) ?_
        refine O_qs (q_move rfl) ?_
        refine O_qs (q_cf Tryz.call52 rfl (fun wd hwd => (ref13_To _ b18 ⟨0, 0, 0, 0, 0⟩ e 0 0 0 (.slice none 0 0) x.slot)) (by repeat (first | exact Pick.nil | exact Take.here | apply Pick.cons | apply Take.there))) ?_
        refine O_qs (q_assign rfl) ?_
        refine O_nil ?_
        refine W_seq ?_
        refine W_seq ?_
        refine W_reg rfl ?_
        refine O_qs (q_move rfl) ?_
        refine O_nil ?_
        refine W_cut (fun (w : Int) => [(15, .int .u64 w), (14, .int .i64 x.slot), (13, .int .i64 (i : Int)), (11, ptr b11), (10, ptr b18), (4, .slice (some ⟨ab, 0, none⟩) L.length cap), (2, .int .i64 lv), (0, ptr mb)]) (fun _ => [oraw mb v, R, N, [(b11, .cells (Plc.l at_).toArray 51 (0, 0))], uraw b18 ⟨0, 0, 0, 0, 0⟩ e (.slice none 0 0) 0 0 0]) (fun w => w = lword mk x.slot e) ?_ ?_
        · refine W_cond rfl ?_ ?_
          · intro hm
            refine W_reg rfl ?_
            refine O_qs (q_move rfl) ?_
            refine O_qs (q_move rfl) ?_
            refine O_qs (q_move rfl) ?_
            refine O_qs (q_cf Tryz.call53 rfl (fun wd hwd => (ref13_Mark _ b18 ⟨0, 0, 0, 0, 0⟩ e 0 0 0 (.slice none 0 0) (lword false x.slot e) x.slot (lword_bounds ..))) (by repeat (first | exact Pick.nil | exact Take.here | apply Pick.cons | apply Take.there))) ?_
            refine O_qs (q_assign rfl) ?_
            refine O_nil ?_
            simp only [lword_unmarked, Bool.false_eq_true, if_false]
            refine ⟨(lword true x.slot e), _, ?_, (by repeat (first | exact Sub.nil | refine Sub.cons rfl ?_)), (by repeat (first | exact Pick.nil | exact Take.here | apply Pick.cons | apply Take.there))⟩
            rw [hm]
          · intro hm
            refine W_skip ?_
            refine ⟨(lword false x.slot e), _, ?_, (by repeat (first | exact Sub.nil | refine Sub.cons rfl ?_)), (by repeat (first | exact Pick.nil | exact Take.here | apply Pick.cons | apply Take.there))⟩
            rw [hm]
        · rintro w hw
          subst hw
          refine W_seq ?_
          refine W_reg rfl ?_
          refine O_qs (q_move rfl) ?_
          refine O_qs (q_loadN (vs := [_, _, _]) Tryz.isAgg51 Tryz.sizeOf51 rfl (rd_range (by repeat (first | exact List.Mem.head _ | apply List.Mem.tail)) rfl)) ?_
          refine O_qs (q_move rfl) ?_
          refine O_es (e_cf Tryz.call50 rfl (fun wd hwd => (ref04_Set _ mb R v l' at_ (lword mk x.slot e) hR (by omega))) (by repeat (first | exact Pick.nil | exact Take.here | apply Pick.cons | apply Take.there))) ?_
          rintro _ _ ⟨_, ⟨R2, v2, hR2, rfl, rfl⟩, rfl⟩
          refine O_nil ?_
          refine W_seq ?_
          refine W_reg rfl ?_
          refine O_qs (q_move rfl) ?_
          refine O_qs (q_move rfl) ?_
          refine O_qs (q_len Tryz.runUnderlying22 rfl) ?_
          refine O_qs (q_lss rfl rfl) ?_
          refine O_nil ?_
          have hl2 := mput_length l' at_ (lword mk x.slot e)
          refine W_tr rfl ((by simpa using hlt)) ?_
          refine W_seq ?_
          refine W_reg rfl ?_
          refine O_qs (q_move rfl) ?_
          refine O_qs (q_move rfl) ?_
          refine O_qs (q_add (w64 (by omega)) rfl rfl) ?_
          refine O_qs (q_cf Tryz.call54 rfl (fun wd hwd => (ref13_Cell _ x.slot (7 + lv))) (by repeat (first | exact Pick.nil | exact Take.here | apply Pick.cons | apply Take.there))) ?_
          refine O_en (e_storeN (vs := [_, _, _]) Tryz.sizeOf51 rfl rfl rfl (by repeat (first | exact Upd.here | apply Upd.there)) rfl (by simp only [setAll, List.setIfInBounds_toArray, List.set_cons_succ, List.set_cons_zero, Nat.reduceAdd, Nat.zero_add] <;> rfl)) ?_
          rintro _ _ ⟨rfl, rfl⟩
          refine O_nil ?_
          refine W_seq ?_
          refine W_reg rfl ?_
          refine O_qs (q_move rfl) ?_
          refine O_qs (q_move rfl) ?_
          refine O_qs (q_ian Tryz.runUnderlying22 Tryz.sizeOf105 rfl rfl hlt) ?_
          refine O_qs (q_fa fa_105_3 rfl) ?_
          refine O_qs (q_load Tryz.isAgg4 rfl (hN.rd (by repeat (first | exact List.Mem.head _ | apply List.Mem.tail)) hV (j := 3) rfl (by show 0 + i * 4 + 3 = _; simp [layN]))) ?_
          refine O_qs (q_assign rfl) ?_
          refine O_nil ?_
          refine W_seq ?_
          refine W_draw [[], [], [1], [], [], [3, 4], [3, 4, 5], [3, 4, 5, 6], [0, 1, 2, 3, 4, 5, 6, 7]] rfl rfl rfl ?_
          refine V.qs 0 rfl rfl (q_move rfl) ?_
          refine V.qs 1 rfl rfl (q_move rfl) ?_
          refine V.qs 3 rfl rfl (q_move rfl) ?_
          refine V.qs 4 rfl rfl (q_move rfl) ?_
          refine V.qs 5 rfl rfl (q_ian Tryz.runUnderlying22 Tryz.sizeOf105 rfl rfl hlt) ?_
          refine V.qs 6 rfl rfl (q_fa fa_105_1 rfl) ?_
          refine V.qs 7 rfl rfl (q_load Tryz.isAgg23 rfl (hN.rd (by repeat (first | exact List.Mem.head _ | apply List.Mem.tail)) hV (j := 1) rfl (by show 0 + i * 4 + 1 = _; simp [layN]))) ?_
          refine V.qs 2 rfl rfl (q_cf Tryz.call54 rfl (fun wd hwd => (ref13_Cell _ x.slot 3)) (by repeat (first | exact Pick.nil | exact Take.here | apply Pick.cons | apply Take.there))) ?_
          refine V.e1s 8 [] rfl rfl rfl (e_cf Tryz.call50 rfl (fun wd hwd => (ref04_Set _ mb R2 v2 (mput l' at_ (lword mk x.slot e)) (cellP x.slot 3) x.key hR2 (by omega))) (by repeat (first | exact Pick.nil | exact Take.here | apply Pick.cons | apply Take.there))) ?_
          rintro _ _ ⟨_, ⟨R3, v3, hR3, rfl, rfl⟩, rfl⟩
          refine ⟨st_nil, ?_⟩
          refine V.fin rfl ?_
          refine W_draw [[], [], [1], [], [], [3, 4], [3, 4, 5], [3, 4, 5, 6], [0, 1, 2, 3, 4, 5, 6, 7]] rfl rfl rfl ?_
          refine V.qs 0 rfl rfl (q_move rfl) ?_
          refine V.qs 1 rfl rfl (q_move rfl) ?_
          refine V.qs 3 rfl rfl (q_move rfl) ?_
          refine V.qs 4 rfl rfl (q_move rfl) ?_
          refine V.qs 5 rfl rfl (q_ian Tryz.runUnderlying22 Tryz.sizeOf105 rfl rfl hlt) ?_
          refine V.qs 6 rfl rfl (q_fa fa_105_2 rfl) ?_
          refine V.qs 7 rfl rfl (q_load Tryz.isAgg23 rfl (hN.rd (by repeat (first | exact List.Mem.head _ | apply List.Mem.tail)) hV (j := 2) rfl (by show 0 + i * 4 + 2 = _; simp [layN]))) ?_
          have hl3 := mput_length (mput l' at_ (lword mk x.slot e)) (cellP x.slot 3) x.key
          refine V.qs 2 rfl rfl (q_cf Tryz.call54 rfl (fun wd hwd => (ref13_Cell _ x.slot 4)) (by repeat (first | exact Pick.nil | exact Take.here | apply Pick.cons | apply Take.there))) ?_
          refine V.e1s 8 [] rfl rfl rfl (e_cf Tryz.call50 rfl (fun wd hwd => (ref04_Set _ mb R3 v3 _ (cellP x.slot 4) x.val hR3 (by omega))) (by repeat (first | exact Pick.nil | exact Take.here | apply Pick.cons | apply Take.there))) ?_
          rintro _ _ ⟨_, ⟨R4, v4, hR4, rfl, rfl⟩, rfl⟩
          refine ⟨st_nil, ?_⟩
          refine V.fin rfl ?_
          refine W_reg rfl ?_
          refine O_qs (q_move rfl) ?_
          refine O_qs (q_add (c := ((i + 1 : Nat) : Int)) (w64' (by omega) (by omega)) rfl rfl) ?_
          refine O_qs (q_assign rfl) ?_
          refine O_nil ?_
          have hl4 := mput_length (mput (mput l' at_ (lword mk x.slot e)) (cellP x.slot 3) x.key) (cellP x.slot 4) x.val
          refine ⟨(i + 1, cellP x.slot (7 + lv), x.mark, R4, v4, mput (mput (mput l' at_ (lword mk x.slot e)) (cellP x.slot 3) x.key) (cellP x.slot 4) x.val), _, ?_, ?_, (by repeat (first | exact Sub.nil | refine Sub.cons rfl ?_)), (by repeat (first | exact Pick.nil | exact Take.here | apply Pick.cons | apply Take.there))⟩
          · exact ⟨hR4, .inl ⟨hlt, (by dsimp only; omega), htot⟩⟩
          · dsimp only; omega
      · intro hc2
        have hil : i = L.length := by simp at hc2; omega
        subst hil
        rw [List.drop_length] at htot
        simp only [layGo] at htot
        refine W_skip ?_
        refine W_seq ?_
        refine W_reg rfl ?_
        refine O_qs (q_move rfl) ?_
        refine O_qs (q_move rfl) ?_
        refine O_qs (q_cf Tryz.call52 rfl (fun wd hwd => (ref13_To _ b18 ⟨0, 0, 0, 0, 0⟩ e 0 0 0 (.slice none 0 0) 0)) (by repeat (first | exact Pick.nil | exact Take.here | apply Pick.cons | apply Take.there))) ?_
        refine O_qs (q_assign rfl) ?_
        refine O_nil ?_
        refine W_seq ?_
        refine W_seq ?_
        refine W_reg rfl ?_
        refine O_qs (q_move rfl) ?_
        refine O_nil ?_
        refine W_cut (fun (w : Int) => [(15, .int .u64 w), (14, .int .i64 0), (13, .int .i64 (L.length : Int)), (12, .bool mk), (11, ptr b11), (10, ptr b18), (4, .slice sa L.length cap), (2, .int .i64 lv), (0, ptr mb)]) (fun _ => [oraw mb v, R, N, [(b11, .cells (Plc.l at_).toArray 51 (0, 0))], uraw b18 ⟨0, 0, 0, 0, 0⟩ e (.slice none 0 0) 0 0 0]) (fun w => w = lword mk 0 e) ?_ ?_
        · refine W_cond rfl ?_ ?_
          · intro hm
            refine W_reg rfl ?_
            refine O_qs (q_move rfl) ?_
            refine O_qs (q_move rfl) ?_
            refine O_qs (q_move rfl) ?_
            refine O_qs (q_cf Tryz.call53 rfl (fun wd hwd => (ref13_Mark _ b18 ⟨0, 0, 0, 0, 0⟩ e 0 0 0 (.slice none 0 0) (lword false 0 e) 0 (lword_bounds ..))) (by repeat (first | exact Pick.nil | exact Take.here | apply Pick.cons | apply Take.there))) ?_
            refine O_qs (q_assign rfl) ?_
            refine O_nil ?_
            simp only [lword_unmarked, Bool.false_eq_true, if_false]
            refine ⟨(lword true 0 e), _, ?_, (by repeat (first | exact Sub.nil | refine Sub.cons rfl ?_)), (by repeat (first | exact Pick.nil | exact Take.here | apply Pick.cons | apply Take.there))⟩
            rw [hm]
          · intro hm
            refine W_skip ?_
            refine ⟨(lword false 0 e), _, ?_, (by repeat (first | exact Sub.nil | refine Sub.cons rfl ?_)), (by repeat (first | exact Pick.nil | exact Take.here | apply Pick.cons | apply Take.there))⟩
            rw [hm]
        · rintro w hw
          subst hw
          refine W_seq ?_
          refine W_reg rfl ?_
          refine O_qs (q_move rfl) ?_
          refine O_qs (q_loadN (vs := [_, _, _]) Tryz.isAgg51 Tryz.sizeOf51 rfl (rd_range (by repeat (first | exact List.Mem.head _ | apply List.Mem.tail)) rfl)) ?_
          refine O_qs (q_move rfl) ?_
          refine O_es (e_cf Tryz.call50 rfl (fun wd hwd => (ref04_Set _ mb R v l' at_ (lword mk 0 e) hR (by omega))) (by repeat (first | exact Pick.nil | exact Take.here | apply Pick.cons | apply Take.there))) ?_
          rintro _ _ ⟨_, ⟨R2, v2, hR2, rfl, rfl⟩, rfl⟩
          refine O_nil ?_
          refine W_seq ?_
          refine W_reg rfl ?_
          refine O_qs (q_move rfl) ?_
          refine O_qs (q_move rfl) ?_
          refine O_qs (q_len Tryz.runUnderlying22 rfl) ?_
          refine O_qs (q_lss rfl rfl) ?_
          refine O_nil ?_
          refine W_fa rfl ((by simp)) ?_
          refine W_skip ?_
          refine W_reg rfl ?_
          refine O_qs (q_move rfl) ?_
          refine O_qs (q_add (c := ((L.length + 1 : Nat) : Int)) (w64' (by omega) (by omega)) rfl rfl) ?_
          refine O_qs (q_assign rfl) ?_
          refine O_nil ?_
          refine ⟨(L.length + 1, at_, mk, R2, v2, mput l' at_ (lword mk 0 e)), _, ?_, ?_, (by repeat (first | exact Sub.nil | refine Sub.cons rfl ?_)), (by repeat (first | exact Pick.nil | exact Take.here | apply Pick.cons | apply Take.there))⟩
          · exact ⟨hR2, .inr ⟨rfl, htot⟩⟩
          · dsimp only; omega
    · intro hc
      have hi : ¬ i ≤ L.length := by simpa using hc
      obtain htot : lay root lv e L l = l' := by
        rcases hcase with ⟨h, _⟩ | ⟨_, h⟩
        · exact absurd h hi
        · exact h
      refine W_exit ?_
      refine res0 (c0 := [oraw mb v, R, N]) rfl (by repeat (first | exact Pick.nil | exact Take.here | apply Pick.cons | apply Take.there)) rfl ?_
      exact ⟨R, v, htot ▸ hR, rfl, rfl⟩
end Go.Proofs.YtbfplncdmbjjhaaGreat
