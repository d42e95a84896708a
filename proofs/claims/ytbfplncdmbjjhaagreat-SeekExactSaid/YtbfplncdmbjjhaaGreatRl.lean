/-
  Walks: the document's lane and search: what they compute is what the program's compute.
-/
import Derived.Test.YtbfplncdmbjjhaaGreatSk8
import Derived.Test.YtbfplncdmbjjhaaGreatR2
set_option linter.unusedSimpArgs false
set_option linter.unusedVariables false
namespace Go.Proofs.YtbfplncdmbjjhaaGreat
open Go Go.SL

def rpc (p : Int) : Int := if p = 0 then 0 else p + 1
abbrev rlaneA (lb : Nat) (x : Lane) : Atom :=
  [(lb, .cells #[.int .i64 x.at_.place.kind, .int .i64 x.at_.place.slot, .int .i64 x.at_.place.part, .int .i64 x.level, .int .u64 x.key, .bool x.vals, .int .i64 (rpc x.pc), .int .u64 x.into.word, .int .u64 x.out.word, .int .u64 x.k.word, .int .u64 x.v.word, .int .i64 x.who.slot, .bool x.found] 57 (0, 0))]
def mwr (l : List (Plc × Int)) : Option (Plc × Int) → List (Plc × Int)
  | none => l
  | some (p, w) => mput l p w

/-- A lane that both may step. -/
structure LaneM (x : Lane) : Prop where
  ok : LaneOk x
  pc : 0 ≤ x.pc ∧ x.pc ≤ 100
  fd : x.pc ≤ 6 → x.found = false

theorem ref13_Slot (B : World) (w : Int) (h : 0 ≤ w ∧ w < 18446744073709551616) : Ctr Tryz.prog 70 [.int .u64 w] B [] (fun u c => u = .int .i64 (wslot w) ∧ c = []) := by
  refine Ctr.intro (n := 6) Tryz.func70 rfl Tryz.ntmps70 (Nat.le_of_ble_eq_true rfl) ?_
  refine W_seq ?_
  refine W_reg rfl ?_
  refine O_qs (q_assign rfl) ?_
  refine O_nil ?_
  refine W_seq ?_
  refine W_reg rfl ?_
  refine O_qs (q_move rfl) ?_
  refine O_qs (q_cf Tryz.call101 rfl (fun wd hwd => ref02_Of _ w h) (by repeat (first | exact Pick.nil | exact Take.here | apply Pick.cons | apply Take.there))) ?_
  refine O_qs (q_field (fd_150_1 rfl) rfl) ?_
  refine O_qs (q_assign rfl) ?_
  refine O_nil ?_
  refine W_ret ?_
  refine res1 (c0 := []) rfl rfl (by repeat (first | exact Pick.nil | exact Take.here | apply Pick.cons | apply Take.there)) rfl ?_
  exact ⟨rfl, rfl⟩

theorem ref04_Swap (B : World) (mb : Nat) (R : Atom) (v : Value) (l : List (Plc × Int)) (p : Plc) (o n : Int) (hR : Row layO 147 R v l) (hl : l.length ≤ 1073741824) :
    Ctr Tryz.prog 71 [ptr mb, p.v, .int .u64 o, .int .u64 n] B [oraw mb v, R]
      (fun u c => ∃ R' v', Row layO 147 R' v' (if mem l p = o then mput l p n else l) ∧ u = .bool (decide (mem l p = o)) ∧ c = [oraw mb v', R']) := by
  refine Ctr.intro (n := 18) Tryz.func71 rfl Tryz.ntmps71 (Nat.le_of_ble_eq_true rfl) ?_
  refine W_seq ?_
  refine W_reg rfl ?_
  refine O_es (e_box (cs := #[_, _, _]) rfl rfl) ?_
  rintro _ _ ⟨b5, rfl, rfl⟩
  refine O_qs (q_assign rfl) ?_
  refine O_nil ?_
  refine W_seq ?_
  refine W_seq ?_
  refine W_reg rfl ?_
  refine O_qs (q_move rfl) ?_
  refine O_qs (q_loadN (vs := [_, _, _]) Tryz.isAgg51 Tryz.sizeOf51 rfl (rd_range (by repeat (first | exact List.Mem.head _ | apply List.Mem.tail)) rfl)) ?_
  refine O_qs (q_cf Tryz.call58 rfl (fun wd hwd => (ref04_Get _ mb R v l p hR hl)) (by repeat (first | exact Pick.nil | exact Take.here | apply Pick.cons | apply Take.there))) ?_
  refine O_qs (q_move rfl) ?_
  refine O_qs (q_neq rfl rfl) ?_
  refine O_nil ?_
  refine W_cond rfl ?_ ?_
  · intro hc
    have h0 : ¬ mem l p = o := by simpa using hc
    refine W_seq ?_
    refine W_reg rfl ?_
    refine O_qs (q_assign rfl) ?_
    refine O_nil ?_
    refine W_ret ?_
    refine res1 (c0 := [oraw mb v, R]) rfl rfl (by repeat (first | exact Pick.nil | exact Take.here | apply Pick.cons | apply Take.there)) rfl ?_
    rw [if_neg h0, decide_eq_false h0]
    exact ⟨R, v, hR, rfl, rfl⟩
  · intro hc
    have h0 : mem l p = o := by simpa using hc
    refine W_skip ?_
    refine W_seq ?_
    refine W_reg rfl ?_
    refine O_qs (q_move rfl) ?_
    refine O_qs (q_loadN (vs := [_, _, _]) Tryz.isAgg51 Tryz.sizeOf51 rfl (rd_range (by repeat (first | exact List.Mem.head _ | apply List.Mem.tail)) rfl)) ?_
    refine O_qs (q_move rfl) ?_
    refine O_es (e_cf Tryz.call50 rfl (fun wd hwd => (ref04_Set _ mb R v l p n hR hl)) (by repeat (first | exact Pick.nil | exact Take.here | apply Pick.cons | apply Take.there))) ?_
    rintro _ _ ⟨_, ⟨R', v', hR', rfl, rfl⟩, rfl⟩
    refine O_nil ?_
    refine W_seq ?_
    refine W_reg rfl ?_
    refine O_qs (q_assign rfl) ?_
    refine O_nil ?_
    refine W_ret ?_
    refine res1 (c0 := [oraw mb v', R']) rfl rfl (by repeat (first | exact Pick.nil | exact Take.here | apply Pick.cons | apply Take.there)) rfl ?_
    rw [if_pos h0, decide_eq_true h0]
    exact ⟨R', v', hR', rfl, rfl⟩

theorem rlane_Next (B : World) (lb : Nat) (x : Lane) (hx : LaneOk x) :
    Ctr Tryz.prog 69 [ptr lb] B [rlaneA lb x] (fun u c => u = x.next.place.v ∧ c = [rlaneA lb x]) := by
  have h1 := hx.lv
  refine Ctr.intro (n := 13) Tryz.func69 rfl Tryz.ntmps69 (Nat.le_of_ble_eq_true rfl) ?_
  refine W_seq ?_
  refine W_reg rfl ?_
  refine O_es (e_alloc (cs := #[.int .i64 0, .int .i64 0, .int .i64 0]) Tryz.zeroValue51 rfl) ?_
  rintro _ _ ⟨b2, rfl, rfl⟩
  refine O_nil ?_
  refine W_seq ?_
  refine W_draw [[], [0], [0, 1], [0, 1, 2], [], [4], [4, 5], [4, 5, 6], [4, 5, 6, 7], [0, 1, 2, 3, 4, 5, 6, 7, 8], [0, 1, 2, 3, 4, 5, 6, 7, 8, 9]] rfl rfl rfl ?_
  refine V.qs 0 rfl rfl (q_move rfl) ?_
  refine V.qs 1 rfl rfl (q_nil rfl) ?_
  refine V.qs 2 rfl rfl (q_fa fa_57_9 rfl) ?_
  refine V.qs 3 rfl rfl (q_load Tryz.isAgg3 rfl (rd_chunk (by repeat (first | exact List.Mem.head _ | apply List.Mem.tail)) rfl)) ?_
  refine V.qs 4 rfl rfl (q_move rfl) ?_
  refine V.qs 5 rfl rfl (q_nil rfl) ?_
  refine V.qs 6 rfl rfl (q_fa fa_57_1 rfl) ?_
  refine V.qs 7 rfl rfl (q_load Tryz.isAgg3 rfl (rd_chunk (by repeat (first | exact List.Mem.head _ | apply List.Mem.tail)) rfl)) ?_
  refine V.qs 8 rfl rfl (q_add (c := 7 + x.level) (w64 (by omega)) rfl rfl) ?_
  refine V.qs 9 rfl rfl (q_cf Tryz.call54 rfl (fun wd hwd => (ref13_Cell _ x.who.slot (7 + x.level))) (by repeat (first | exact Pick.nil | exact Take.here | apply Pick.cons | apply Take.there))) ?_
  refine V.e1n 10 [] rfl rfl rfl (e_storeN (vs := [_, _, _]) Tryz.sizeOf51 rfl rfl rfl (by repeat (first | exact Upd.here | apply Upd.there)) rfl (by simp only [setAll, List.setIfInBounds_toArray, List.set_cons_succ, List.set_cons_zero, Nat.reduceAdd, Nat.zero_add] <;> rfl)) ?_
  rintro _ _ ⟨rfl, rfl⟩
  refine ⟨st_nil, ?_⟩
  refine V.fin rfl ?_
  refine W_ret ?_
  refine resL (c0 := [rlaneA lb x]) rfl (.cell (us := [_, _, _]) Tryz.isAgg51 Tryz.sizeOf51 rfl (rd_range (by repeat (first | exact List.Mem.head _ | apply List.Mem.tail)) rfl) .nil) (by repeat (first | exact Pick.nil | exact Take.here | apply Pick.cons | apply Take.there)) rfl ?_
  exact ⟨rfl, rfl⟩

theorem rlane_come (B : World) (lb : Nat) (x : Lane) (w : Val) (hw : Wd w.word) :
    Ctr Tryz.prog 72 [ptr lb, .int .u64 w.word] B [rlaneA lb x] (fun u c => u = .int .i64 (comeSt w) ∧ c = [rlaneA lb (x.come w)]) := by
  refine Ctr.intro (n := 25) Tryz.func72 rfl Tryz.ntmps72 (Nat.le_of_ble_eq_true rfl) ?_
  refine W_seq ?_
  refine W_reg rfl ?_
  refine O_qs (q_assign rfl) ?_
  refine O_nil ?_
  refine W_seq ?_
  refine W_reg rfl ?_
  refine O_qs (q_move rfl) ?_
  refine O_qs (q_move rfl) ?_
  refine O_qs (q_nil rfl) ?_
  refine O_qs (q_fa fa_57_5 rfl) ?_
  refine O_en (e_store Tryz.sizeOf23 rfl rfl rfl (by repeat (first | exact Upd.here | apply Upd.there)) rfl (by simp only [setAll, List.setIfInBounds_toArray, List.set_cons_succ, List.set_cons_zero, Nat.reduceAdd, Nat.zero_add] <;> rfl)) ?_
  rintro _ _ ⟨rfl, rfl⟩
  refine O_nil ?_
  refine W_seq ?_
  refine W_reg rfl ?_
  refine O_qs (q_move rfl) ?_
  refine O_qs (q_nil rfl) ?_
  refine O_qs (q_fa fa_57_6 rfl) ?_
  refine O_en (e_store Tryz.sizeOf23 rfl rfl rfl (by repeat (first | exact Upd.here | apply Upd.there)) rfl (by simp only [setAll, List.setIfInBounds_toArray, List.set_cons_succ, List.set_cons_zero, Nat.reduceAdd, Nat.zero_add] <;> rfl)) ?_
  rintro _ _ ⟨rfl, rfl⟩
  refine O_nil ?_
  refine W_seq ?_
  refine W_reg rfl ?_
  refine O_qs (q_move rfl) ?_
  refine O_qs (q_move rfl) ?_
  refine O_qs (q_cf Tryz.call70 rfl (fun wd hwd => (ref13_Slot _ w.word hw)) (by repeat (first | exact Pick.nil | exact Take.here | apply Pick.cons | apply Take.there))) ?_
  refine O_qs (q_nil rfl) ?_
  refine O_qs (q_fa fa_57_9 rfl) ?_
  refine O_en (e_store Tryz.sizeOf3 rfl rfl rfl (by repeat (first | exact Upd.here | apply Upd.there)) rfl (by simp only [setAll, List.setIfInBounds_toArray, List.set_cons_succ, List.set_cons_zero, Nat.reduceAdd, Nat.zero_add] <;> rfl)) ?_
  rintro _ _ ⟨rfl, rfl⟩
  refine O_nil ?_
  refine W_seq ?_
  refine W_reg rfl ?_
  refine O_qs (q_move rfl) ?_
  refine O_qs (q_nil rfl) ?_
  refine O_qs (q_fa fa_57_4 rfl) ?_
  refine O_en (e_store Tryz.sizeOf3 rfl rfl rfl (by repeat (first | exact Upd.here | apply Upd.there)) rfl (by simp only [setAll, List.setIfInBounds_toArray, List.set_cons_succ, List.set_cons_zero, Nat.reduceAdd, Nat.zero_add] <;> rfl)) ?_
  rintro _ _ ⟨rfl, rfl⟩
  refine O_nil ?_
  refine W_seq ?_
  refine W_seq ?_
  refine W_reg rfl ?_
  refine O_qs (q_move rfl) ?_
  refine O_qs (q_nil rfl) ?_
  refine O_qs (q_fa fa_57_9 rfl) ?_
  refine O_qs (q_load Tryz.isAgg3 rfl (rd_chunk (by repeat (first | exact List.Mem.head _ | apply List.Mem.tail)) rfl)) ?_
  refine O_qs (q_eql rfl rfl) ?_
  refine O_nil ?_
  refine W_cond rfl ?_ ?_
  · intro hc
    have h0 : wslot w.word = 0 := of_decide_eq_true hc
    refine W_seq ?_
    refine W_reg rfl ?_
    refine O_qs (q_assign rfl) ?_
    refine O_nil ?_
    refine W_ret ?_
    rw [h0]
    refine res1 (c0 := [rlaneA lb { x with into := w, out := Val.zero, pc := 2, who := ⟨0, 0⟩ }]) rfl rfl (by repeat (first | exact Pick.nil | exact Take.here | apply Pick.cons | apply Take.there)) rfl ?_
    simp only [Lane.come, comeSt, h0, if_true]
    exact ⟨by first | trivial | rfl, by first | trivial | rfl⟩
  · intro hc
    have h0 : ¬ wslot w.word = 0 := of_decide_eq_false hc
    refine W_skip ?_
    refine W_seq ?_
    refine W_reg rfl ?_
    refine O_qs (q_assign rfl) ?_
    refine O_nil ?_
    refine W_ret ?_
    refine res1 (c0 := [rlaneA lb { x with into := w, out := Val.zero, pc := 2, who := ⟨wslot w.word, w.id⟩ }]) rfl rfl (by repeat (first | exact Pick.nil | exact Take.here | apply Pick.cons | apply Take.there)) rfl ?_
    simp only [Lane.come, comeSt, h0, if_false]
    exact ⟨by first | trivial | rfl, by first | trivial | rfl⟩

theorem rlane_holds (B : World) (lb : Nat) (x : Lane) (hx : LaneM x) :
    Ctr Tryz.prog 74 [ptr lb] B [rlaneA lb x] (fun u c => u = .int .i64 x.hold.1 ∧ c = [rlaneA lb x.hold.2]) := by
  obtain ⟨hok, hpc, hfd⟩ := hx
  have hlv := hok.lv
  have r1 : (rpc x.pc = 2) ↔ x.pc = 1 := by unfold rpc; split <;> omega
  have r3 : (rpc x.pc = 4) ↔ x.pc = 3 := by unfold rpc; split <;> omega
  have r6 : (rpc x.pc = 7) ↔ x.pc = 6 := by unfold rpc; split <;> omega
  refine Ctr.intro (n := 88) Tryz.func74 rfl Tryz.ntmps74 (Nat.le_of_ble_eq_true rfl) ?_
  refine W_seq ?_
  refine W_reg rfl ?_
  refine O_qs (q_assign rfl) ?_
  refine O_nil ?_
  refine W_seq ?_
  refine W_seq ?_
  refine W_reg rfl ?_
  refine O_qs (q_move rfl) ?_
  refine O_qs (q_nil rfl) ?_
  refine O_qs (q_fa fa_57_4 rfl) ?_
  refine O_qs (q_load Tryz.isAgg3 rfl (rd_chunk (by repeat (first | exact List.Mem.head _ | apply List.Mem.tail)) rfl)) ?_
  refine O_qs (q_eql rfl rfl) ?_
  refine O_nil ?_
  refine W_cond rfl ?_ ?_
  · intro hc
    have h1 : x.pc = 1 := r1.1 (of_decide_eq_true hc)
    have hst : x.hold = if marked x.into.word then (2, x) else (comeSt x.into, x.come x.into) := by simp [Lane.hold, h1]
    refine W_seq ?_
    refine W_seq ?_
    refine W_reg rfl ?_
    refine O_qs (q_move rfl) ?_
    refine O_qs (q_nil rfl) ?_
    refine O_qs (q_fa fa_57_5 rfl) ?_
    refine O_qs (q_load Tryz.isAgg23 rfl (rd_chunk (by repeat (first | exact List.Mem.head _ | apply List.Mem.tail)) rfl)) ?_
    refine O_qs (q_cf Tryz.call88 rfl (fun wd hwd => (ref13_Marked _ x.into.word hok.into)) (by repeat (first | exact Pick.nil | exact Take.here | apply Pick.cons | apply Take.there))) ?_
    refine O_nil ?_
    refine W_cond rfl ?_ ?_
    · intro hm
      refine W_seq ?_
      refine W_reg rfl ?_
      refine O_qs (q_assign rfl) ?_
      refine O_nil ?_
      refine W_ret ?_
      refine res1 (c0 := [rlaneA lb x]) rfl rfl (by repeat (first | exact Pick.nil | exact Take.here | apply Pick.cons | apply Take.there)) rfl ?_
      rw [hst, if_pos hm]
      exact ⟨by first | trivial | rfl, by first | trivial | rfl⟩
    · intro hm
      refine W_skip ?_
      refine W_seq ?_
      refine W_reg rfl ?_
      refine O_qs (q_move rfl) ?_
      refine O_qs (q_move rfl) ?_
      refine O_qs (q_nil rfl) ?_
      refine O_qs (q_fa fa_57_5 rfl) ?_
      refine O_qs (q_load Tryz.isAgg23 rfl (rd_chunk (by repeat (first | exact List.Mem.head _ | apply List.Mem.tail)) rfl)) ?_
      refine O_es (e_cf Tryz.call72 rfl (fun wd hwd => (rlane_come _ lb x x.into hok.into)) (by repeat (first | exact Pick.nil | exact Take.here | apply Pick.cons | apply Take.there))) ?_
      rintro _ _ ⟨_, ⟨rfl, rfl⟩, rfl⟩
      refine O_qs (q_assign rfl) ?_
      refine O_nil ?_
      refine W_ret ?_
      refine res1 (c0 := [rlaneA lb (x.come x.into)]) rfl rfl (by repeat (first | exact Pick.nil | exact Take.here | apply Pick.cons | apply Take.there)) rfl ?_
      rw [hst, if_neg (by rw [hm]; decide)]
      exact ⟨by first | trivial | rfl, by first | trivial | rfl⟩
  intro hc
  have n1 : ¬ x.pc = 1 := fun h => of_decide_eq_false hc (r1.2 h)
  refine W_skip ?_
  refine W_seq ?_
  refine W_seq ?_
  refine W_reg rfl ?_
  refine O_qs (q_move rfl) ?_
  refine O_qs (q_nil rfl) ?_
  refine O_qs (q_fa fa_57_4 rfl) ?_
  refine O_qs (q_load Tryz.isAgg3 rfl (rd_chunk (by repeat (first | exact List.Mem.head _ | apply List.Mem.tail)) rfl)) ?_
  refine O_qs (q_eql rfl rfl) ?_
  refine O_nil ?_
  refine W_cond rfl ?_ ?_
  · intro hc
    have h3 : x.pc = 3 := r3.1 (of_decide_eq_true hc)
    have hst : x.hold = (0, { x with pc := if marked x.out.word then 4 else 5 }) := by simp [Lane.hold, h3]
    refine W_seq ?_
    refine W_reg rfl ?_
    refine O_qs (q_move rfl) ?_
    refine O_qs (q_nil rfl) ?_
    refine O_qs (q_fa fa_57_4 rfl) ?_
    refine O_en (e_store Tryz.sizeOf3 rfl rfl rfl (by repeat (first | exact Upd.here | apply Upd.there)) rfl (by simp only [setAll, List.setIfInBounds_toArray, List.set_cons_succ, List.set_cons_zero, Nat.reduceAdd, Nat.zero_add] <;> rfl)) ?_
    rintro _ _ ⟨rfl, rfl⟩
    refine O_nil ?_
    refine W_seq ?_
    refine W_seq ?_
    refine W_reg rfl ?_
    refine O_qs (q_move rfl) ?_
    refine O_qs (q_nil rfl) ?_
    refine O_qs (q_fa fa_57_6 rfl) ?_
    refine O_qs (q_load Tryz.isAgg23 rfl (rd_chunk (by repeat (first | exact List.Mem.head _ | apply List.Mem.tail)) rfl)) ?_
    refine O_qs (q_cf Tryz.call88 rfl (fun wd hwd => (ref13_Marked _ x.out.word hok.out)) (by repeat (first | exact Pick.nil | exact Take.here | apply Pick.cons | apply Take.there))) ?_
    refine O_nil ?_
    refine W_cond rfl ?_ ?_
    · intro hm
      refine W_reg rfl ?_
      refine O_qs (q_move rfl) ?_
      refine O_qs (q_nil rfl) ?_
      refine O_qs (q_fa fa_57_4 rfl) ?_
      refine O_en (e_store Tryz.sizeOf3 rfl rfl rfl (by repeat (first | exact Upd.here | apply Upd.there)) rfl (by simp only [setAll, List.setIfInBounds_toArray, List.set_cons_succ, List.set_cons_zero, Nat.reduceAdd, Nat.zero_add] <;> rfl)) ?_
      rintro _ _ ⟨rfl, rfl⟩
      refine O_nil ?_
      refine W_seq ?_
      refine W_reg rfl ?_
      refine O_qs (q_assign rfl) ?_
      refine O_nil ?_
      refine W_ret ?_
      refine res1 (c0 := [rlaneA lb { x with pc := 4 }]) rfl rfl (by repeat (first | exact Pick.nil | exact Take.here | apply Pick.cons | apply Take.there)) rfl ?_
      rw [hst, if_pos hm]
      exact ⟨by first | trivial | rfl, by first | trivial | rfl⟩
    · intro hm
      refine W_skip ?_
      refine W_seq ?_
      refine W_reg rfl ?_
      refine O_qs (q_assign rfl) ?_
      refine O_nil ?_
      refine W_ret ?_
      refine res1 (c0 := [rlaneA lb { x with pc := 5 }]) rfl rfl (by repeat (first | exact Pick.nil | exact Take.here | apply Pick.cons | apply Take.there)) rfl ?_
      rw [hst, if_neg (by rw [hm]; decide)]
      exact ⟨by first | trivial | rfl, by first | trivial | rfl⟩
  intro hc
  have n3 : ¬ x.pc = 3 := fun h => of_decide_eq_false hc (r3.2 h)
  refine W_skip ?_
  refine W_seq ?_
  refine W_seq ?_
  refine W_draw [[], [0], [0, 1], [0, 1, 2], [0, 1, 2, 3], [0, 1, 2, 3, 4], [0, 1, 2, 3, 4, 5], [0, 1, 2, 3, 4, 5, 6], [0, 1, 2, 3, 4, 5, 6, 7], [0, 1, 2, 3, 4, 5, 6, 7, 8], [0, 1, 2, 3, 4, 5], [0, 1, 2, 3, 4, 5, 10], [0, 1, 2, 3, 4, 5, 10, 11], [0, 1, 2, 3, 4, 5, 10, 11, 12], [0, 1, 2, 3, 4, 5, 6, 7, 8, 9, 10, 11, 12, 13], [0, 1, 2, 3, 4, 5, 6, 7, 8, 9, 10, 11, 12, 13, 14]] rfl rfl rfl ?_
  refine V.qs 0 rfl rfl (q_move rfl) ?_
  refine V.qs 1 rfl rfl (q_nil rfl) ?_
  refine V.qs 2 rfl rfl (q_fa fa_57_4 rfl) ?_
  refine V.qs 3 rfl rfl (q_load Tryz.isAgg3 rfl (rd_chunk (by repeat (first | exact List.Mem.head _ | apply List.Mem.tail)) rfl)) ?_
  refine V.qs 4 rfl rfl (q_eql rfl rfl) ?_
  refine V.qs 5 rfl rfl (q_move rfl) ?_
  refine V.qs 6 rfl rfl (QY.cond0 rfl rfl rfl (fun H => q_move rfl)) ?_
  refine V.qs 7 rfl rfl (QY.cond0 rfl rfl rfl (fun H => q_nil (gvh rfl H))) ?_
  refine V.qs 8 rfl rfl (QY.cond0 rfl rfl rfl (fun H => q_fa fa_57_7 (gvh rfl H))) ?_
  refine V.qs 9 rfl rfl (QY.cond0 rfl rfl rfl (fun H => q_load Tryz.isAgg23 (gvh rfl H) (rd_chunk (by repeat (first | exact List.Mem.head _ | apply List.Mem.tail)) rfl))) ?_
  refine V.qs 10 rfl rfl (QY.cond0 rfl rfl rfl (fun H => q_move rfl)) ?_
  refine V.qs 11 rfl rfl (QY.cond0 rfl rfl rfl (fun H => q_nil (gvh rfl H))) ?_
  refine V.qs 12 rfl rfl (QY.cond0 rfl rfl rfl (fun H => q_fa fa_57_2 (gvh rfl H))) ?_
  refine V.qs 13 rfl rfl (QY.cond0 rfl rfl rfl (fun H => q_load Tryz.isAgg23 (gvh rfl H) (rd_chunk (by repeat (first | exact List.Mem.head _ | apply List.Mem.tail)) rfl))) ?_
  refine V.qs 14 rfl rfl (QY.cond0 rfl rfl rfl (fun H => q_lss (gvh rfl H) (gvh rfl H))) ?_
  refine V.qs 15 rfl rfl (q_and rfl rfl rfl) ?_
  refine V.fin rfl ?_
  refine W_cond rfl ?_ ?_
  · intro hc
    rw [Bool.and_eq_true] at hc
    have h6 : x.pc = 6 := r6.1 (of_decide_eq_true hc.1)
    have hlt : x.k.word < x.key := of_decide_eq_true hc.2
    have hst : x.hold = (comeSt x.out, Lane.come { x with at_ := x.next } x.out) := by simp [Lane.hold, h6, Lane.compare, hlt]
    refine W_seq ?_
    refine W_reg rfl ?_
    refine O_qs (q_move rfl) ?_
    refine O_qs (q_move rfl) ?_
    refine O_qs (q_cf Tryz.call69 rfl (fun wd hwd => (rlane_Next _ lb x hok)) (by repeat (first | exact Pick.nil | exact Take.here | apply Pick.cons | apply Take.there))) ?_
    refine O_qs (q_nil rfl) ?_
    refine O_qs (q_fa fa_57_0 rfl) ?_
    refine O_en (e_storeN (vs := [_, _, _]) Tryz.sizeOf51 rfl rfl rfl (by repeat (first | exact Upd.here | apply Upd.there)) rfl (by simp only [setAll, List.setIfInBounds_toArray, List.set_cons_succ, List.set_cons_zero, Nat.reduceAdd, Nat.zero_add] <;> rfl)) ?_
    rintro _ _ ⟨rfl, rfl⟩
    refine O_nil ?_
    refine W_seq ?_
    refine W_reg rfl ?_
    refine O_qs (q_move rfl) ?_
    refine O_qs (q_move rfl) ?_
    refine O_qs (q_nil rfl) ?_
    refine O_qs (q_fa fa_57_6 rfl) ?_
    refine O_qs (q_load Tryz.isAgg23 rfl (rd_chunk (by repeat (first | exact List.Mem.head _ | apply List.Mem.tail)) rfl)) ?_
    refine O_es (e_cf Tryz.call72 rfl (fun wd hwd => (rlane_come _ lb { x with at_ := x.next } x.out hok.out)) (by repeat (first | exact Pick.nil | exact Take.here | apply Pick.cons | apply Take.there))) ?_
    rintro _ _ ⟨_, ⟨rfl, rfl⟩, rfl⟩
    refine O_qs (q_assign rfl) ?_
    refine O_nil ?_
    refine W_ret ?_
    refine res1 (c0 := [rlaneA lb (Lane.come { x with at_ := x.next } x.out)]) rfl rfl (by repeat (first | exact Pick.nil | exact Take.here | apply Pick.cons | apply Take.there)) rfl ?_
    rw [hst]
    exact ⟨by first | trivial | rfl, by first | trivial | rfl⟩
  intro hc
  have hnl : x.pc = 6 → ¬ x.k.word < x.key := fun h h' => by
    rw [Bool.and_eq_false_iff] at hc
    rcases hc with hc | hc
    · exact of_decide_eq_false hc (r6.2 h)
    · exact of_decide_eq_false hc h'
  refine W_skip ?_
  refine W_seq ?_
  refine W_seq ?_
  refine W_draw [[], [0], [0, 1], [0, 1, 2], [0, 1, 2, 3], [0, 1, 2, 3, 4], [0, 1, 2, 3, 4, 5], [0, 1, 2, 3, 4, 5, 6], [0, 1, 2, 3, 4, 5, 6, 7], [0, 1, 2, 3, 4, 5, 6, 7, 8], [0, 1, 2, 3, 4, 5], [0, 1, 2, 3, 4, 5, 10], [0, 1, 2, 3, 4, 5, 10, 11], [0, 1, 2, 3, 4, 5, 10, 11, 12], [0, 1, 2, 3, 4, 5, 6, 7, 8, 9, 10, 11, 12, 13], [0, 1, 2, 3, 4, 5, 6, 7, 8, 9, 10, 11, 12, 13, 14]] rfl rfl rfl ?_
  refine V.qs 0 rfl rfl (q_move rfl) ?_
  refine V.qs 1 rfl rfl (q_nil rfl) ?_
  refine V.qs 2 rfl rfl (q_fa fa_57_4 rfl) ?_
  refine V.qs 3 rfl rfl (q_load Tryz.isAgg3 rfl (rd_chunk (by repeat (first | exact List.Mem.head _ | apply List.Mem.tail)) rfl)) ?_
  refine V.qs 4 rfl rfl (q_eql rfl rfl) ?_
  refine V.qs 5 rfl rfl (q_move rfl) ?_
  refine V.qs 6 rfl rfl (QY.cond0 rfl rfl rfl (fun H => q_move rfl)) ?_
  refine V.qs 7 rfl rfl (QY.cond0 rfl rfl rfl (fun H => q_nil (gvh rfl H))) ?_
  refine V.qs 8 rfl rfl (QY.cond0 rfl rfl rfl (fun H => q_fa fa_57_7 (gvh rfl H))) ?_
  refine V.qs 9 rfl rfl (QY.cond0 rfl rfl rfl (fun H => q_load Tryz.isAgg23 (gvh rfl H) (rd_chunk (by repeat (first | exact List.Mem.head _ | apply List.Mem.tail)) rfl))) ?_
  refine V.qs 10 rfl rfl (QY.cond0 rfl rfl rfl (fun H => q_move rfl)) ?_
  refine V.qs 11 rfl rfl (QY.cond0 rfl rfl rfl (fun H => q_nil (gvh rfl H))) ?_
  refine V.qs 12 rfl rfl (QY.cond0 rfl rfl rfl (fun H => q_fa fa_57_2 (gvh rfl H))) ?_
  refine V.qs 13 rfl rfl (QY.cond0 rfl rfl rfl (fun H => q_load Tryz.isAgg23 (gvh rfl H) (rd_chunk (by repeat (first | exact List.Mem.head _ | apply List.Mem.tail)) rfl))) ?_
  refine V.qs 14 rfl rfl (QY.cond0 rfl rfl rfl (fun H => q_eql (gvh rfl H) (gvh rfl H))) ?_
  refine V.qs 15 rfl rfl (q_and rfl rfl rfl) ?_
  refine V.fin rfl ?_
  refine W_cond rfl ?_ ?_
  · intro hc
    rw [Bool.and_eq_true] at hc
    have h6 : x.pc = 6 := r6.1 (of_decide_eq_true hc.1)
    have heq : x.k.word = x.key := of_decide_eq_true hc.2
    have hnl' := hnl h6
    refine W_seq ?_
    refine W_reg rfl ?_
    refine O_qs (q_move rfl) ?_
    refine O_qs (q_nil rfl) ?_
    refine O_qs (q_fa fa_57_10 rfl) ?_
    refine O_en (e_store Tryz.sizeOf4 rfl rfl rfl (by repeat (first | exact Upd.here | apply Upd.there)) rfl (by simp only [setAll, List.setIfInBounds_toArray, List.set_cons_succ, List.set_cons_zero, Nat.reduceAdd, Nat.zero_add] <;> rfl)) ?_
    rintro _ _ ⟨rfl, rfl⟩
    refine O_nil ?_
    refine W_seq ?_
    refine W_reg rfl ?_
    refine O_qs (q_move rfl) ?_
    refine O_qs (q_nil rfl) ?_
    refine O_qs (q_fa fa_57_3 rfl) ?_
    refine O_qs (q_load Tryz.isAgg4 rfl (rd_chunk (by repeat (first | exact List.Mem.head _ | apply List.Mem.tail)) rfl)) ?_
    refine O_nil ?_
    refine W_cond rfl ?_ ?_
    · intro hv
      have hst : x.hold = (0, { x with found := true, pc := 7 }) := by simp [Lane.hold, h6, Lane.compare, heq, hv]
      refine W_seq ?_
      refine W_reg rfl ?_
      refine O_qs (q_move rfl) ?_
      refine O_qs (q_nil rfl) ?_
      refine O_qs (q_fa fa_57_4 rfl) ?_
      refine O_en (e_store Tryz.sizeOf3 rfl rfl rfl (by repeat (first | exact Upd.here | apply Upd.there)) rfl (by simp only [setAll, List.setIfInBounds_toArray, List.set_cons_succ, List.set_cons_zero, Nat.reduceAdd, Nat.zero_add] <;> rfl)) ?_
      rintro _ _ ⟨rfl, rfl⟩
      refine O_nil ?_
      refine W_seq ?_
      refine W_reg rfl ?_
      refine O_qs (q_assign rfl) ?_
      refine O_nil ?_
      refine W_ret ?_
      refine res1 (c0 := [rlaneA lb { x with found := true, pc := 7 }]) rfl rfl (by repeat (first | exact Pick.nil | exact Take.here | apply Pick.cons | apply Take.there)) rfl ?_
      rw [hst]
      exact ⟨by first | trivial | rfl, by first | trivial | rfl⟩
    · intro hv
      have hst : x.hold = (1, { x with found := true }) := by simp [Lane.hold, h6, Lane.compare, heq, hv]
      refine W_skip ?_
      refine W_seq ?_
      refine W_reg rfl ?_
      refine O_qs (q_assign rfl) ?_
      refine O_nil ?_
      refine W_ret ?_
      refine res1 (c0 := [rlaneA lb { x with found := true }]) rfl rfl (by repeat (first | exact Pick.nil | exact Take.here | apply Pick.cons | apply Take.there)) rfl ?_
      rw [hst]
      exact ⟨by first | trivial | rfl, by first | trivial | rfl⟩
  · intro hc
    have hst : x.hold = (1, x) := by
      by_cases h6 : x.pc = 6
      · have hne : ¬ x.k.word = x.key := fun h' => by
          rw [Bool.and_eq_false_iff] at hc
          rcases hc with hc | hc
          · exact of_decide_eq_false hc (r6.2 h6)
          · exact of_decide_eq_false hc h'
        have hf := hfd (by omega)
        simp only [Lane.hold, h6, Lane.compare, hnl h6, hne]
        obtain ⟨at_, level, key, vals, pc, into, out, k, v, who, found⟩ := x
        dsimp only at hf h6
        subst hf h6
        simp
      · simp [Lane.hold, n1, n3, h6]
    refine W_skip ?_
    refine W_seq ?_
    refine W_reg rfl ?_
    refine O_qs (q_assign rfl) ?_
    refine O_nil ?_
    refine W_ret ?_
    refine res1 (c0 := [rlaneA lb x]) rfl rfl (by repeat (first | exact Pick.nil | exact Take.here | apply Pick.cons | apply Take.there)) rfl ?_
    rw [hst]
    exact ⟨by first | trivial | rfl, by first | trivial | rfl⟩

theorem ref15_Lane_Step (B : World) (lb ub mb : Nat) (x : Lane) (xc : Conf) (e n h r : Int) (v3 : Value) (R : Atom) (v : Value) (l : List (Plc × Int)) (hx : LaneM x) (hR : Row layO 147 R v l) (hl : l.length ≤ 1073741824) :
    Ctr Tryz.prog 18 [ptr lb, ptr ub, ptr mb] B [rlaneA lb x, uraw ub xc e v3 n h r, oraw mb v, R]
      (fun u c => ∃ R' v', Row layO 147 R' v' (mwr l (x.step e r (mem l)).wr) ∧ u = .int .i64 (x.step e r (mem l)).st ∧ c = [rlaneA lb (x.step e r (mem l)).x, uraw ub xc e v3 n h (x.step e r (mem l)).r, oraw mb v', R']) := by
  have hok := hx.ok
  have hpc := hx.pc
  have r0 : (rpc x.pc = 0) ↔ x.pc = 0 := by unfold rpc; split <;> omega
  have r2 : (rpc x.pc = 3) ↔ x.pc = 2 := by unfold rpc; split <;> omega
  have r4 : (rpc x.pc = 5) ↔ x.pc = 4 := by unfold rpc; split <;> omega
  have r5 : (rpc x.pc = 6) ↔ x.pc = 5 := by unfold rpc; split <;> omega
  have r7 : (rpc x.pc = 8) ↔ x.pc = 7 := by unfold rpc; split <;> omega
  refine Ctr.intro (n := 98) Tryz.func18 rfl Tryz.ntmps18 (Nat.le_of_ble_eq_true rfl) ?_
  refine W_seq ?_
  refine W_reg rfl ?_
  refine O_qs (q_assign rfl) ?_
  refine O_nil ?_
  refine W_seq ?_
  refine W_seq ?_
  refine W_reg rfl ?_
  refine O_qs (q_move rfl) ?_
  refine O_qs (q_nil rfl) ?_
  refine O_qs (q_fa fa_57_4 rfl) ?_
  refine O_qs (q_load Tryz.isAgg3 rfl (rd_chunk (by repeat (first | exact List.Mem.head _ | apply List.Mem.tail)) rfl)) ?_
  refine O_nil ?_
  refine W_block ?_
  refine W_seq ?_
  refine W_reg rfl ?_
  refine O_qs (q_eql rfl rfl) ?_
  refine O_qs (q_assign rfl) ?_
  refine O_nil ?_
  refine W_cond rfl ?_ ?_
  · intro hc
    have h0 : x.pc = 0 := r0.1 (of_decide_eq_true hc)
    have hst : x.step e r (mem l) = ⟨0, { x with pc := 1, into := ⟨mem l x.at_.place, 0, false⟩ }, r, none, true⟩ := by simp [Lane.step, h0]
    refine W_seq ?_
    refine W_reg rfl ?_
    refine O_qs (q_move rfl) ?_
    refine O_qs (q_move rfl) ?_
    refine O_qs (q_move rfl) ?_
    refine O_qs (q_nil rfl) ?_
    refine O_qs (q_fa fa_57_0 rfl) ?_
    refine O_qs (q_loadN (vs := [_, _, _]) Tryz.isAgg51 Tryz.sizeOf51 rfl (rd_range (by repeat (first | exact List.Mem.head _ | apply List.Mem.tail)) rfl)) ?_
    refine O_qs (q_cf Tryz.call58 rfl (fun wd hwd => (ref04_Get _ mb R v l x.at_.place hR hl)) (by repeat (first | exact Pick.nil | exact Take.here | apply Pick.cons | apply Take.there))) ?_
    refine O_qs (q_nil rfl) ?_
    refine O_qs (q_fa fa_57_5 rfl) ?_
    refine O_en (e_store Tryz.sizeOf23 rfl rfl rfl (by repeat (first | exact Upd.here | apply Upd.there)) rfl (by simp only [setAll, List.setIfInBounds_toArray, List.set_cons_succ, List.set_cons_zero, Nat.reduceAdd, Nat.zero_add] <;> rfl)) ?_
    rintro _ _ ⟨rfl, rfl⟩
    refine O_nil ?_
    refine W_seq ?_
    refine W_reg rfl ?_
    refine O_qs (q_move rfl) ?_
    refine O_qs (q_nil rfl) ?_
    refine O_qs (q_fa fa_57_4 rfl) ?_
    refine O_en (e_store Tryz.sizeOf3 rfl rfl rfl (by repeat (first | exact Upd.here | apply Upd.there)) rfl (by simp only [setAll, List.setIfInBounds_toArray, List.set_cons_succ, List.set_cons_zero, Nat.reduceAdd, Nat.zero_add] <;> rfl)) ?_
    rintro _ _ ⟨rfl, rfl⟩
    refine O_nil ?_
    refine W_seq ?_
    refine W_reg rfl ?_
    refine O_qs (q_assign rfl) ?_
    refine O_nil ?_
    refine W_ret ?_
    refine res1 (c0 := [rlaneA lb { x with pc := 1, into := ⟨mem l x.at_.place, 0, false⟩ }, uraw ub xc e v3 n h r, oraw mb v, R]) rfl rfl (by repeat (first | exact Pick.nil | exact Take.here | apply Pick.cons | apply Take.there)) rfl ?_
    rw [hst]
    exact ⟨R, v, hR, rfl, rfl⟩
  intro hc
  have n0 : ¬ x.pc = 0 := fun h => of_decide_eq_false hc (r0.2 h)
  refine W_seq ?_
  refine W_reg rfl ?_
  refine O_qs (q_eql rfl rfl) ?_
  refine O_qs (q_assign rfl) ?_
  refine O_nil ?_
  refine W_cond rfl ?_ ?_
  · intro hc
    have h0 : x.pc = 2 := r2.1 (of_decide_eq_true hc)
    have hst : x.step e r (mem l) = ⟨0, { x with pc := 3, out := ⟨mem l x.next.place, 0, false⟩ }, r, none, true⟩ := by simp [Lane.step, h0]
    refine W_seq ?_
    refine W_reg rfl ?_
    refine O_qs (q_move rfl) ?_
    refine O_qs (q_move rfl) ?_
    refine O_qs (q_move rfl) ?_
    refine O_qs (q_cf Tryz.call69 rfl (fun wd hwd => (rlane_Next _ lb x hok)) (by repeat (first | exact Pick.nil | exact Take.here | apply Pick.cons | apply Take.there))) ?_
    refine O_qs (q_cf Tryz.call58 rfl (fun wd hwd => (ref04_Get _ mb R v l x.next.place hR hl)) (by repeat (first | exact Pick.nil | exact Take.here | apply Pick.cons | apply Take.there))) ?_
    refine O_qs (q_nil rfl) ?_
    refine O_qs (q_fa fa_57_6 rfl) ?_
    refine O_en (e_store Tryz.sizeOf23 rfl rfl rfl (by repeat (first | exact Upd.here | apply Upd.there)) rfl (by simp only [setAll, List.setIfInBounds_toArray, List.set_cons_succ, List.set_cons_zero, Nat.reduceAdd, Nat.zero_add] <;> rfl)) ?_
    rintro _ _ ⟨rfl, rfl⟩
    refine O_nil ?_
    refine W_seq ?_
    refine W_reg rfl ?_
    refine O_qs (q_move rfl) ?_
    refine O_qs (q_nil rfl) ?_
    refine O_qs (q_fa fa_57_4 rfl) ?_
    refine O_en (e_store Tryz.sizeOf3 rfl rfl rfl (by repeat (first | exact Upd.here | apply Upd.there)) rfl (by simp only [setAll, List.setIfInBounds_toArray, List.set_cons_succ, List.set_cons_zero, Nat.reduceAdd, Nat.zero_add] <;> rfl)) ?_
    rintro _ _ ⟨rfl, rfl⟩
    refine O_nil ?_
    refine W_seq ?_
    refine W_reg rfl ?_
    refine O_qs (q_assign rfl) ?_
    refine O_nil ?_
    refine W_ret ?_
    refine res1 (c0 := [rlaneA lb { x with pc := 3, out := ⟨mem l x.next.place, 0, false⟩ }, uraw ub xc e v3 n h r, oraw mb v, R]) rfl rfl (by repeat (first | exact Pick.nil | exact Take.here | apply Pick.cons | apply Take.there)) rfl ?_
    rw [hst]
    exact ⟨R, v, hR, rfl, rfl⟩
  intro hc
  have n2 : ¬ x.pc = 2 := fun h => of_decide_eq_false hc (r2.2 h)
  refine W_seq ?_
  refine W_reg rfl ?_
  refine O_qs (q_eql rfl rfl) ?_
  refine O_qs (q_assign rfl) ?_
  refine O_nil ?_
  refine W_cond rfl ?_ ?_
  · intro hc
    have h0 : x.pc = 4 := r4.1 (of_decide_eq_true hc)
    have hst : x.step e r (mem l) = if mem l x.at_.place = x.into.word then ⟨comeSt (x.cutV e), x.come (x.cutV e), r, some (x.at_.place, (x.cutV e).word), false⟩ else ⟨2, x, r, none, false⟩ := by simp [Lane.step, h0]
    refine W_seq ?_
    refine W_reg rfl ?_
    refine O_qs (q_move rfl) ?_
    refine O_qs (q_move rfl) ?_
    refine O_qs (q_nil rfl) ?_
    refine O_qs (q_fa fa_57_6 rfl) ?_
    refine O_qs (q_load Tryz.isAgg23 rfl (rd_chunk (by repeat (first | exact List.Mem.head _ | apply List.Mem.tail)) rfl)) ?_
    refine O_qs (q_cf Tryz.call70 rfl (fun wd hwd => (ref13_Slot _ x.out.word hok.out)) (by repeat (first | exact Pick.nil | exact Take.here | apply Pick.cons | apply Take.there))) ?_
    refine O_qs (q_cf Tryz.call52 rfl (fun wd hwd => (ref13_To _ ub xc e n h r v3 (wslot x.out.word))) (by repeat (first | exact Pick.nil | exact Take.here | apply Pick.cons | apply Take.there))) ?_
    refine O_qs (q_assign rfl) ?_
    refine O_nil ?_
    refine W_seq ?_
    refine W_seq ?_
    refine W_draw [[], [], [1], [1, 2], [1, 2, 3], [], [5], [5, 6], [5, 6, 7], [], [0, 1, 2, 3, 4, 5, 6, 7, 8, 9], [0, 1, 2, 3, 4, 5, 6, 7, 8, 9, 10]] rfl rfl rfl ?_
    refine V.qs 0 rfl rfl (q_move rfl) ?_
    refine V.qs 1 rfl rfl (q_move rfl) ?_
    refine V.qs 2 rfl rfl (q_nil rfl) ?_
    refine V.qs 3 rfl rfl (q_fa fa_57_0 rfl) ?_
    refine V.qs 4 rfl rfl (q_loadN (vs := [_, _, _]) Tryz.isAgg51 Tryz.sizeOf51 rfl (rd_range (by repeat (first | exact List.Mem.head _ | apply List.Mem.tail)) rfl)) ?_
    refine V.qs 5 rfl rfl (q_move rfl) ?_
    refine V.qs 6 rfl rfl (q_nil rfl) ?_
    refine V.qs 7 rfl rfl (q_fa fa_57_5 rfl) ?_
    refine V.qs 8 rfl rfl (q_load Tryz.isAgg23 rfl (rd_chunk (by repeat (first | exact List.Mem.head _ | apply List.Mem.tail)) rfl)) ?_
    refine V.qs 9 rfl rfl (q_move rfl) ?_
    refine V.e1s 10 [] rfl rfl rfl (e_cf Tryz.call71 rfl (fun wd hwd => (ref04_Swap _ mb R v l x.at_.place x.into.word (lword false (wslot x.out.word) e) hR hl)) (by repeat (first | exact Pick.nil | exact Take.here | apply Pick.cons | apply Take.there))) ?_
    rintro _ _ ⟨_, ⟨R', v', hR', rfl, rfl⟩, rfl⟩
    refine ⟨st_nil, ?_⟩
    refine V.qs 11 rfl rfl (q_not rfl) ?_
    refine V.fin rfl ?_
    refine W_cond rfl ?_ ?_
    · intro hd
      have hm : ¬ mem l x.at_.place = x.into.word := by simpa using hd
      refine W_seq ?_
      refine W_reg rfl ?_
      refine O_qs (q_assign rfl) ?_
      refine O_nil ?_
      refine W_ret ?_
      refine res1 (c0 := [rlaneA lb x, uraw ub xc e v3 n h r, oraw mb v', R']) rfl rfl (by repeat (first | exact Pick.nil | exact Take.here | apply Pick.cons | apply Take.there)) rfl ?_
      rw [if_neg hm] at hR' hst
      rw [hst]
      exact ⟨R', v', hR', rfl, rfl⟩
    · intro hd
      have hm : mem l x.at_.place = x.into.word := by simpa using hd
      refine W_skip ?_
      refine W_seq ?_
      refine W_reg rfl ?_
      refine O_qs (q_move rfl) ?_
      refine O_qs (q_move rfl) ?_
      refine O_es (e_cf Tryz.call72 rfl (fun wd hwd => (rlane_come _ lb x (x.cutV e) (lword_bounds ..))) (by repeat (first | exact Pick.nil | exact Take.here | apply Pick.cons | apply Take.there))) ?_
      rintro _ _ ⟨_, ⟨rfl, rfl⟩, rfl⟩
      refine O_qs (q_assign rfl) ?_
      refine O_nil ?_
      refine W_ret ?_
      refine res1 (c0 := [rlaneA lb (x.come (x.cutV e)), uraw ub xc e v3 n h r, oraw mb v', R']) rfl rfl (by repeat (first | exact Pick.nil | exact Take.here | apply Pick.cons | apply Take.there)) rfl ?_
      rw [if_pos hm] at hR' hst
      rw [hst]
      exact ⟨R', v', hR', rfl, rfl⟩
  intro hc
  have n4 : ¬ x.pc = 4 := fun h => of_decide_eq_false hc (r4.2 h)
  refine W_seq ?_
  refine W_reg rfl ?_
  refine O_qs (q_eql rfl rfl) ?_
  refine O_qs (q_assign rfl) ?_
  refine O_nil ?_
  refine W_cond rfl ?_ ?_
  · intro hc
    have h0 : x.pc = 5 := r5.1 (of_decide_eq_true hc)
    have hst : x.step e r (mem l) = ⟨0, { x with pc := 6, k := ⟨mem l (cellP x.who.slot 3), 0, false⟩ }, r, none, true⟩ := by simp [Lane.step, h0]
    refine W_seq ?_
    refine W_reg rfl ?_
    refine O_qs (q_move rfl) ?_
    refine O_qs (q_move rfl) ?_
    refine O_qs (q_move rfl) ?_
    refine O_qs (q_nil rfl) ?_
    refine O_qs (q_fa fa_57_9 rfl) ?_
    refine O_qs (q_load Tryz.isAgg3 rfl (rd_chunk (by repeat (first | exact List.Mem.head _ | apply List.Mem.tail)) rfl)) ?_
    refine O_qs (q_cf Tryz.call54 rfl (fun wd hwd => (ref13_Cell _ x.who.slot 3)) (by repeat (first | exact Pick.nil | exact Take.here | apply Pick.cons | apply Take.there))) ?_
    refine O_qs (q_cf Tryz.call58 rfl (fun wd hwd => (ref04_Get _ mb R v l (cellP x.who.slot 3) hR hl)) (by repeat (first | exact Pick.nil | exact Take.here | apply Pick.cons | apply Take.there))) ?_
    refine O_qs (q_nil rfl) ?_
    refine O_qs (q_fa fa_57_7 rfl) ?_
    refine O_en (e_store Tryz.sizeOf23 rfl rfl rfl (by repeat (first | exact Upd.here | apply Upd.there)) rfl (by simp only [setAll, List.setIfInBounds_toArray, List.set_cons_succ, List.set_cons_zero, Nat.reduceAdd, Nat.zero_add] <;> rfl)) ?_
    rintro _ _ ⟨rfl, rfl⟩
    refine O_nil ?_
    refine W_seq ?_
    refine W_reg rfl ?_
    refine O_qs (q_move rfl) ?_
    refine O_qs (q_nil rfl) ?_
    refine O_qs (q_fa fa_57_4 rfl) ?_
    refine O_en (e_store Tryz.sizeOf3 rfl rfl rfl (by repeat (first | exact Upd.here | apply Upd.there)) rfl (by simp only [setAll, List.setIfInBounds_toArray, List.set_cons_succ, List.set_cons_zero, Nat.reduceAdd, Nat.zero_add] <;> rfl)) ?_
    rintro _ _ ⟨rfl, rfl⟩
    refine O_nil ?_
    refine W_seq ?_
    refine W_reg rfl ?_
    refine O_qs (q_assign rfl) ?_
    refine O_nil ?_
    refine W_ret ?_
    refine res1 (c0 := [rlaneA lb { x with pc := 6, k := ⟨mem l (cellP x.who.slot 3), 0, false⟩ }, uraw ub xc e v3 n h r, oraw mb v, R]) rfl rfl (by repeat (first | exact Pick.nil | exact Take.here | apply Pick.cons | apply Take.there)) rfl ?_
    rw [hst]
    exact ⟨R, v, hR, rfl, rfl⟩
  intro hc
  have n5 : ¬ x.pc = 5 := fun h => of_decide_eq_false hc (r5.2 h)
  refine W_seq ?_
  refine W_reg rfl ?_
  refine O_qs (q_eql rfl rfl) ?_
  refine O_qs (q_assign rfl) ?_
  refine O_nil ?_
  refine W_cond rfl ?_ ?_
  · intro hc
    have h0 : x.pc = 7 := r7.1 (of_decide_eq_true hc)
    have hst : x.step e r (mem l) = ⟨0, { x with pc := 8, v := ⟨mem l (cellP x.who.slot 4), 0, false⟩ }, r, none, true⟩ := by simp [Lane.step, h0]
    refine W_seq ?_
    refine W_reg rfl ?_
    refine O_qs (q_move rfl) ?_
    refine O_qs (q_move rfl) ?_
    refine O_qs (q_move rfl) ?_
    refine O_qs (q_nil rfl) ?_
    refine O_qs (q_fa fa_57_9 rfl) ?_
    refine O_qs (q_load Tryz.isAgg3 rfl (rd_chunk (by repeat (first | exact List.Mem.head _ | apply List.Mem.tail)) rfl)) ?_
    refine O_qs (q_cf Tryz.call54 rfl (fun wd hwd => (ref13_Cell _ x.who.slot 4)) (by repeat (first | exact Pick.nil | exact Take.here | apply Pick.cons | apply Take.there))) ?_
    refine O_qs (q_cf Tryz.call58 rfl (fun wd hwd => (ref04_Get _ mb R v l (cellP x.who.slot 4) hR hl)) (by repeat (first | exact Pick.nil | exact Take.here | apply Pick.cons | apply Take.there))) ?_
    refine O_qs (q_nil rfl) ?_
    refine O_qs (q_fa fa_57_8 rfl) ?_
    refine O_en (e_store Tryz.sizeOf23 rfl rfl rfl (by repeat (first | exact Upd.here | apply Upd.there)) rfl (by simp only [setAll, List.setIfInBounds_toArray, List.set_cons_succ, List.set_cons_zero, Nat.reduceAdd, Nat.zero_add] <;> rfl)) ?_
    rintro _ _ ⟨rfl, rfl⟩
    refine O_nil ?_
    refine W_seq ?_
    refine W_reg rfl ?_
    refine O_qs (q_move rfl) ?_
    refine O_qs (q_nil rfl) ?_
    refine O_qs (q_fa fa_57_4 rfl) ?_
    refine O_en (e_store Tryz.sizeOf3 rfl rfl rfl (by repeat (first | exact Upd.here | apply Upd.there)) rfl (by simp only [setAll, List.setIfInBounds_toArray, List.set_cons_succ, List.set_cons_zero, Nat.reduceAdd, Nat.zero_add] <;> rfl)) ?_
    rintro _ _ ⟨rfl, rfl⟩
    refine O_nil ?_
    refine W_seq ?_
    refine W_reg rfl ?_
    refine O_qs (q_assign rfl) ?_
    refine O_nil ?_
    refine W_ret ?_
    refine res1 (c0 := [rlaneA lb { x with pc := 8, v := ⟨mem l (cellP x.who.slot 4), 0, false⟩ }, uraw ub xc e v3 n h r, oraw mb v, R]) rfl rfl (by repeat (first | exact Pick.nil | exact Take.here | apply Pick.cons | apply Take.there)) rfl ?_
    rw [hst]
    exact ⟨R, v, hR, rfl, rfl⟩
  intro hc
  have n7 : ¬ x.pc = 7 := fun h => of_decide_eq_false hc (r7.2 h)
  have hst : x.step e r (mem l) = if mem l epochP = IntKind.u64.wrap e then ⟨x.hold.1, x.hold.2, r, none, true⟩ else ⟨2, x, inc r, none, true⟩ := by
    unfold Lane.step
    rw [if_neg n0, if_neg n2, if_neg n5, if_neg n7, if_neg n4]
  refine W_skip ?_
  refine W_seq ?_
  refine W_seq ?_
  refine W_reg rfl ?_
  refine O_qs (q_move rfl) ?_
  refine O_qs (q_move rfl) ?_
  refine O_es (e_cf Tryz.call73 rfl (fun wd hwd => (ref13_Valid _ ub mb xc e n h r v3 R v l hR hl)) (by repeat (first | exact Pick.nil | exact Take.here | apply Pick.cons | apply Take.there))) ?_
  rintro _ _ ⟨_, ⟨rfl, rfl⟩, rfl⟩
  refine O_qs (q_not rfl) ?_
  refine O_nil ?_
  refine W_cond rfl ?_ ?_
  · intro hc
    have hv : ¬ mem l epochP = IntKind.u64.wrap e := by simpa using hc
    rw [if_neg hv] at hst ⊢
    refine W_seq ?_
    refine W_reg rfl ?_
    refine O_qs (q_assign rfl) ?_
    refine O_nil ?_
    refine W_ret ?_
    refine res1 (c0 := [rlaneA lb x, uraw ub xc e v3 n h (inc r), oraw mb v, R]) rfl rfl (by repeat (first | exact Pick.nil | exact Take.here | apply Pick.cons | apply Take.there)) rfl ?_
    rw [hst]
    exact ⟨R, v, hR, rfl, rfl⟩
  · intro hc
    have hv : mem l epochP = IntKind.u64.wrap e := by simpa using hc
    rw [if_pos hv] at hst ⊢
    refine W_skip ?_
    refine W_seq ?_
    refine W_reg rfl ?_
    refine O_qs (q_move rfl) ?_
    refine O_es (e_cf Tryz.call74 rfl (fun wd hwd => (rlane_holds _ lb x hx)) (by repeat (first | exact Pick.nil | exact Take.here | apply Pick.cons | apply Take.there))) ?_
    rintro _ _ ⟨_, ⟨rfl, rfl⟩, rfl⟩
    refine O_qs (q_assign rfl) ?_
    refine O_nil ?_
    refine W_ret ?_
    refine res1 (c0 := [rlaneA lb x.hold.2, uraw ub xc e v3 n h r, oraw mb v, R]) rfl rfl (by repeat (first | exact Pick.nil | exact Take.here | apply Pick.cons | apply Take.there)) rfl ?_
    rw [hst]
    exact ⟨R, v, hR, rfl, rfl⟩

theorem LaneM.step {x : Lane} (hx : LaneM x) {e r : Int} {m : Mem} (hm : ∀ p, Wd (m p)) (hs : (x.step e r m).st = 0) : LaneM (x.step e r m).x := by
  refine ⟨hx.ok.step hm, ?_, ?_⟩
  all_goals
    obtain ⟨_, hpc, hfd⟩ := hx
    revert hs
    unfold Lane.step
    split
    · intro _; first | exact fun _ => hfd (by omega) | (dsimp only; omega)
    split
    · intro _; first | exact fun _ => hfd (by omega) | (dsimp only; omega)
    split
    · intro _; first | exact fun _ => hfd (by omega) | (dsimp only; omega)
    split
    · intro _; first | (intro h; dsimp only at h; omega) | (dsimp only; omega)
    split
    · split
      · intro _; first | exact fun _ => hfd (by omega) | (show (0 : Int) ≤ 2 ∧ (2 : Int) ≤ 100; omega)
      · intro h; cases h
    split
    · unfold Lane.hold
      split
      · split
        · intro h; cases h
        · intro _; first | exact fun _ => hfd (by omega) | (show (0 : Int) ≤ 2 ∧ (2 : Int) ≤ 100; omega)
      split
      · intro _; first | exact fun _ => hfd (by omega) | (dsimp only; split <;> omega)
      split
      · unfold Lane.compare
        split
        · intro _; first | exact fun _ => hfd (by omega) | (show (0 : Int) ≤ 2 ∧ (2 : Int) ≤ 100; omega)
        split
        · intro _; first | (intro h; dsimp only at h; omega) | (dsimp only; omega)
        · intro h; cases h
      · intro h; cases h
    · intro h; cases h
end Go.Proofs.YtbfplncdmbjjhaaGreat
