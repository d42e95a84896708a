/-
  Walks: cells and the plain world.
-/
import Derived.Test.YtbfplncdmbjjhaaGreatW2
import Derived.Test.YtbfplncdmbjjhaaGreatRow
set_option linter.unusedSimpArgs false
set_option linter.unusedVariables false
namespace Go.Proofs.YtbfplncdmbjjhaaGreat
open Go Go.SL

theorem chk_int {P : Program} {T : TypeId} {k k' : IntKind} {a : Int} {b : Bool} {n : Nat} {w : World} (hu : ∀ w, (underlying T).run P w = .ok (.int k) w) : (Instr.checkKey b (n + 1) T (.int k' a)).run P w = .ok () w := by
  rw [Instr.checkKey]
  simp [hu, Result.andThen]

theorem keyPlace : KeyLaw Tryz.prog 51 Plc.v := by
  refine KeyLaw.asked Tryz.runUnderlying51 ?_ ?_ ?_
  · intro b p w
    show (Instr.checkKey b (9998 + 1 + 1) 51 p.v).run Tryz.prog w = _
    rw [Instr.checkKey]
    simp [Tryz.runUnderlying51, part, Tryz.isAgg3, chk_int Tryz.runUnderlying3, Result.andThen]
  · intro p q w
    show (Op.equalIn 10000 51 p.v q.v).run Tryz.prog w = _
    rw [eqc_51]
    congr 1
    rw [Bool.eq_iff_iff]
    obtain ⟨p1, p2, p3⟩ := p
    obtain ⟨q1, q2, q3⟩ := q
    simp
  · intro p
    show Instr.sameBits (9999 + 1) p.v p.v = true
    simp [Instr.sameBits]

def inc (x : Int) : Int := IntKind.i64.wrap (x + 1)
def mem (l : List (Plc × Int)) (p : Plc) : Int := (mget l p).getD 0
def putw (l : List (Plc × Int)) (p : Plc) (w : Int) : List (Plc × Int) := if w = 0 then mdel l p else mput l p w
theorem mgetD_mem (l : List (Plc × Int)) (p : Plc) : mgetD (Value.int .u64) (.int .u64 0) l p = .int .u64 (mem l p) := by
  unfold mgetD mem
  cases mget l p <;> rfl
theorem mem_putw (l : List (Plc × Int)) (h : Keys l) (p q : Plc) (w : Int) : mem (putw l p w) q = if q = p then w else mem l q := by
  unfold putw mem
  by_cases hw : w = 0
  · subst hw
    rw [if_pos rfl, mget_del l h]
    split <;> rfl
  · rw [if_neg hw, mget_put]
    split <;> rfl

/-- All words are words, none is 0. -/
def Wds (l : List (Plc × Int)) : Prop := ∀ p w, (p, w) ∈ l → 0 < w ∧ w < 18446744073709551616
theorem Wds.mem {l : List (Plc × Int)} (h : Wds l) (p : Plc) : 0 ≤ mem l p ∧ mem l p < 18446744073709551616 := by
  unfold Proofs.YtbfplncdmbjjhaaGreat.mem
  have : ∀ (l : List (Plc × Int)) w, mget l p = some w → (p, w) ∈ l := by
    intro l
    induction l with
    | nil => intro w h; cases h
    | cons x r ih =>
      intro w h
      obtain ⟨q, u⟩ := x
      simp only [mget] at h
      by_cases e : p = q
      · rw [if_pos e] at h; obtain rfl := Option.some.inj h; subst e; exact List.mem_cons_self ..
      · rw [if_neg e] at h; exact List.mem_cons_of_mem _ (ih w h)
  cases h1 : mget l p with
  | none => simp
  | some w => have := h p w (this l w h1); simp; omega
theorem Wds.putw {l : List (Plc × Int)} (h : Wds l) (p : Plc) {w : Int} (hw : 0 ≤ w ∧ w < 18446744073709551616) : Wds (putw l p w) := by
  unfold Proofs.YtbfplncdmbjjhaaGreat.putw
  have hd : ∀ (l : List (Plc × Int)) x, x ∈ mdel l p → x ∈ l := by
    intro l
    induction l with
    | nil => intro x h; simp [mdel] at h
    | cons y r ih =>
      intro x hx
      obtain ⟨q, u⟩ := y
      simp only [mdel] at hx
      by_cases e : p = q
      · rw [if_pos e] at hx; exact List.mem_cons_of_mem _ hx
      · rw [if_neg e] at hx
        rcases List.mem_cons.1 hx with rfl | hx
        · exact List.mem_cons_self ..
        · exact List.mem_cons_of_mem _ (ih x hx)
  have hp : ∀ (l : List (Plc × Int)) x, x ∈ mput l p w → x = (p, w) ∨ x ∈ l := by
    intro l
    induction l with
    | nil => intro x h; simp [mput] at h; exact .inl h
    | cons y r ih =>
      intro x hx
      obtain ⟨q, u⟩ := y
      simp only [mput] at hx
      by_cases e : p = q
      · rw [if_pos e] at hx
        rcases List.mem_cons.1 hx with rfl | hx
        · exact .inl rfl
        · exact .inr (List.mem_cons_of_mem _ hx)
      · rw [if_neg e] at hx
        rcases List.mem_cons.1 hx with rfl | hx
        · exact .inr (List.mem_cons_self ..)
        · exact (ih x hx).imp id (List.mem_cons_of_mem _)
  intro q u hm
  split at hm
  · exact h q u (hd l _ hm)
  · rcases hp l _ hm with h1 | h1
    · simp only [Prod.mk.injEq] at h1; obtain ⟨_, rfl⟩ := h1; omega
    · exact h q u h1
theorem Keys.putw {l : List (Plc × Int)} (h : Keys l) (p : Plc) (w : Int) : Keys (putw l p w) := by
  unfold Proofs.YtbfplncdmbjjhaaGreat.putw
  split
  · exact h.del p
  · exact h.put p w

@[reducible] def cellsC (mb : Nat) (k : Count) : Array Value := #[.map (some mb), .int .i64 k.loads, .int .i64 k.stores, .int .i64 k.swaps, .int .i64 k.failed, .int .i64 k.adds]
/-- The cells of block cb. -/
def CellsIs (A : Atom) (cb : Nat) (l : List (Plc × Int)) (k : Count) : Prop :=
  ∃ mb B, A = (cb, .cells (cellsC mb k) 176 (0, 0)) :: B ∧ MapIs Plc.v (Value.int .u64) B mb l ∧ Wds l
/-- The plain world of block wb. -/
def PlainIs (A : Atom) (wb : Nat) (l : List (Plc × Int)) (k : Count) : Prop :=
  ∃ cb B, A = (wb, .cells #[.pointer (some ⟨cb, 0, none⟩)] 153 (0, 0)) :: B ∧ CellsIs B cb l k
theorem CellsIs.wds {A : Atom} {cb : Nat} {l : List (Plc × Int)} {k : Count} (h : CellsIs A cb l k) : Wds l := by obtain ⟨_, _, _, _, h⟩ := h; exact h
theorem CellsIs.keys {A : Atom} {cb : Nat} {l : List (Plc × Int)} {k : Count} (h : CellsIs A cb l k) : Keys l := by obtain ⟨_, _, _, ⟨_, _, _, _, h, _⟩, _⟩ := h; exact h
theorem PlainIs.wds {A : Atom} {wb : Nat} {l : List (Plc × Int)} {k : Count} (h : PlainIs A wb l k) : Wds l := by obtain ⟨_, _, _, h⟩ := h; exact h.wds
theorem PlainIs.keys {A : Atom} {wb : Nat} {l : List (Plc × Int)} {k : Count} (h : PlainIs A wb l k) : Keys l := by obtain ⟨_, _, _, h⟩ := h; exact h.keys

theorem cell_New (B : World) : Ctr Tryz.prog 89 [] B [] (fun u c => ∃ cb A, CellsIs A cb [] Count.zero ∧ u = ptr cb ∧ c = [A]) := by
  refine Ctr.intro (n := 4) Tryz.func89 rfl Tryz.ntmps89 (Nat.le_of_ble_eq_true rfl) ?_
  refine W_seq ?_
  refine W_reg rfl ?_
  refine O_qs (q_assign rfl) ?_
  refine O_nil ?_
  refine W_seq ?_
  refine W_reg rfl ?_
  refine O_es (e_makeMap (ek := Plc.v) (ev := Value.int .u64)) ?_
  rintro _ _ ⟨mb, A, hA, rfl, rfl⟩
  refine O_qs (q_build rfl (bld_176 (cs := [_, _, _, _, _, _]) rfl)) ?_
  refine O_es (e_box (cs := #[_, _, _, _, _, _]) rfl rfl) ?_
  rintro _ _ ⟨b3, rfl, rfl⟩
  refine O_qs (q_assign rfl) ?_
  refine O_nil ?_
  refine W_ret ?_
  refine res1 (c0 := [[(b3, _)], A]) (c := [(b3, _) :: A]) rfl rfl (by repeat (first | exact Pick.nil | exact Take.here | apply Pick.cons | apply Take.there)) rfl ?_
  exact ⟨b3, _, ⟨mb, A, rfl, hA, fun p w h => by cases h⟩, rfl, rfl⟩

theorem cell_put (B : World) (A : Atom) (cb mb : Nat) (k : Count) (l : List (Plc × Int)) (p : Plc) (w : Int) (hA : MapIs Plc.v (Value.int .u64) A mb l) :
    Ctr Tryz.prog 110 [ptr cb, p.v, .int .u64 w] B [[(cb, .cells (cellsC mb k) 176 (0, 0))], A]
      (fun u c => ∃ A', MapIs Plc.v (Value.int .u64) A' mb (putw l p w) ∧ c = [[(cb, .cells (cellsC mb k) 176 (0, 0))], A']) := by
  refine Ctr.intro (n := 19) Tryz.func110 rfl Tryz.ntmps110 (Nat.le_of_ble_eq_true rfl) ?_
  refine W_seq ?_
  refine W_reg rfl ?_
  refine O_es (e_box (cs := #[_, _, _]) rfl rfl) ?_
  rintro _ _ ⟨b4, rfl, rfl⟩
  refine O_nil ?_
  refine W_seq ?_
  refine W_seq ?_
  refine W_reg rfl ?_
  refine O_qs (q_move rfl) ?_
  refine O_qs (q_eql rfl rfl) ?_
  refine O_nil ?_
  refine W_cond rfl ?_ ?_
  · intro h
    have h0 : w = 0 := by simpa using h
    refine W_seq ?_
    refine W_draw [[], [0], [0, 1], [0, 1, 2], [], [0, 1, 2, 3, 4]] rfl rfl rfl ?_
    refine V.qs 0 rfl rfl (q_move rfl) ?_
    refine V.qs 1 rfl rfl (q_nil rfl) ?_
    refine V.qs 2 rfl rfl (q_fa fa_176_0 rfl) ?_
    refine V.qs 3 rfl rfl (q_load Tryz.isAgg174 rfl (rd_chunk (by repeat (first | exact List.Mem.head _ | apply List.Mem.tail)) rfl)) ?_
    refine V.qs 4 rfl rfl (q_loadN (vs := [_, _, _]) Tryz.isAgg51 Tryz.sizeOf51 rfl (rd_range (by repeat (first | exact List.Mem.head _ | apply List.Mem.tail)) rfl)) ?_
    refine V.e1n 5 [] rfl rfl rfl (e_delete Tryz.runUnderlying174 keyPlace hA (fun _ => (by repeat (first | exact Upd.here | apply Upd.there))) rfl rfl) ?_
    rintro _ _ ⟨A', hA', rfl, rfl⟩
    refine ⟨st_nil, ?_⟩
    refine V.fin rfl ?_
    refine W_ret ?_
    refine res0 (c0 := [[(cb, _)], A']) rfl (by repeat (first | exact Pick.nil | exact Take.here | apply Pick.cons | apply Take.there)) rfl ?_
    exact ⟨A', by unfold putw; rw [if_pos h0]; exact hA', rfl⟩
  · intro h
    have h0 : ¬ w = 0 := by simpa using h
    refine W_skip ?_
    refine W_draw [[], [0], [0, 1], [0, 1, 2], [], [], [0, 1, 2, 3, 4, 5]] rfl rfl rfl ?_
    refine V.qs 0 rfl rfl (q_move rfl) ?_
    refine V.qs 1 rfl rfl (q_nil rfl) ?_
    refine V.qs 2 rfl rfl (q_fa fa_176_0 rfl) ?_
    refine V.qs 3 rfl rfl (q_load Tryz.isAgg174 rfl (rd_chunk (by repeat (first | exact List.Mem.head _ | apply List.Mem.tail)) rfl)) ?_
    refine V.qs 4 rfl rfl (q_loadN (vs := [_, _, _]) Tryz.isAgg51 Tryz.sizeOf51 rfl (rd_range (by repeat (first | exact List.Mem.head _ | apply List.Mem.tail)) rfl)) ?_
    refine V.qs 5 rfl rfl (q_move rfl) ?_
    refine V.e1n 6 [] rfl rfl rfl (e_mapUpdate Tryz.runUnderlying174 keyPlace hA (fun _ => (by repeat (first | exact Upd.here | apply Upd.there))) rfl rfl rfl) ?_
    rintro _ _ ⟨A', hA', rfl, rfl⟩
    refine ⟨st_nil, ?_⟩
    refine V.fin rfl ?_
    refine res0 (c0 := [[(cb, _)], A']) rfl (by repeat (first | exact Pick.nil | exact Take.here | apply Pick.cons | apply Take.there)) rfl ?_
    exact ⟨A', by unfold putw; rw [if_neg h0]; exact hA', rfl⟩

/-- What stands in the map of words. -/
theorem lk_P {B : World} {own : List Nat} {n : Nat} {all : Array Oper} {env : Env} {ctx : Ctx} {dst : Option Tmp} {ty : TypeId} {pos : String} {aft : Array Edge} {x y : Operand} {A : Atom} {mb : Nat} {l : List (Plc × Int)} {p : Plc}
    (hA : MapIs Plc.v (Value.int .u64) A mb l) (hm : A ∈ ctx) (hx : evalO env x = some (.map (some mb))) (hy : evalO env y = some p.v) :
    QY ⟨Tryz.prog, B, own, n⟩ all ⟨dst, .lookup 174 x y false, ty, pos, aft, none⟩ env ctx (.int .u64 (mem l p)) := by
  rw [← mgetD_mem]
  exact q_lookup Tryz.runUnderlying174 keyPlace Tryz.zeroValue23 hA hm hx hy

theorem cell_Load (B : World) (A : Atom) (cb : Nat) (k : Count) (l : List (Plc × Int)) (p : Plc) (hA : CellsIs A cb l k) :
    Ctr Tryz.prog 174 [ptr cb, p.v] B [A] (fun u c => ∃ A', CellsIs A' cb l { k with loads := inc k.loads } ∧ u = .int .u64 (mem l p) ∧ c = [A']) := by
  obtain ⟨mb, Bm, rfl, hB, hw⟩ := hA
  refine Ctr.conv (pre' := [[(cb, .cells (cellsC mb k) 176 (0, 0))], Bm]) rfl ?_
  refine Ctr.intro (n := 22) Tryz.func174 rfl Tryz.ntmps174 (Nat.le_of_ble_eq_true rfl) ?_
  refine W_seq ?_
  refine W_reg rfl ?_
  refine O_es (e_box (cs := #[_, _, _]) rfl rfl) ?_
  rintro _ _ ⟨b3, rfl, rfl⟩
  refine O_qs (q_assign rfl) ?_
  refine O_nil ?_
  refine W_seq ?_
  refine W_seq ?_
  refine W_reg rfl ?_
  refine O_qs (q_move rfl) ?_
  refine O_qs (q_eqnil Tryz.runUnderlying134 rfl rfl) ?_
  refine O_nil ?_
  refine W_false rfl ?_
  refine W_skip ?_
  refine W_seq ?_
  refine W_reg rfl ?_
  refine O_qs (q_move rfl) ?_
  refine O_qs (q_nil rfl) ?_
  refine O_qs (q_fa fa_176_1 rfl) ?_
  refine O_qs (q_fa fa_80_0 rfl) ?_
  refine O_qs (q_load Tryz.isAgg3 rfl (rd_chunk (by repeat (first | exact List.Mem.head _ | apply List.Mem.tail)) rfl)) ?_
  refine O_qs (q_add (c := inc k.loads) rfl rfl rfl) ?_
  refine O_qs (q_nil rfl) ?_
  refine O_qs (q_fa fa_176_1 rfl) ?_
  refine O_qs (q_fa fa_80_0 rfl) ?_
  refine O_en (e_store Tryz.sizeOf3 rfl rfl rfl (by repeat (first | exact Upd.here | apply Upd.there)) rfl (by simp only [setAll, List.setIfInBounds_toArray, List.set_cons_succ, List.set_cons_zero, Nat.reduceAdd, Nat.zero_add] <;> rfl)) ?_
  rintro _ _ ⟨rfl, rfl⟩
  refine O_nil ?_
  refine W_seq ?_
  refine W_draw [[], [0], [0, 1], [0, 1, 2], [], [0, 1, 2, 3, 4], [0, 1, 2, 3, 4, 5]] rfl rfl rfl ?_
  refine V.qs 0 rfl rfl (q_move rfl) ?_
  refine V.qs 1 rfl rfl (q_nil rfl) ?_
  refine V.qs 2 rfl rfl (q_fa fa_176_0 rfl) ?_
  refine V.qs 3 rfl rfl (q_load Tryz.isAgg174 rfl (rd_chunk (by repeat (first | exact List.Mem.head _ | apply List.Mem.tail)) rfl)) ?_
  refine V.qs 4 rfl rfl (q_loadN (vs := [_, _, _]) Tryz.isAgg51 Tryz.sizeOf51 rfl (rd_range (by repeat (first | exact List.Mem.head _ | apply List.Mem.tail)) rfl)) ?_
  refine V.qs 5 rfl rfl (lk_P hB (by repeat (first | exact List.Mem.head _ | apply List.Mem.tail)) rfl rfl) ?_
  refine V.qs 6 rfl rfl (q_assign rfl) ?_
  refine V.fin rfl ?_
  refine W_ret ?_
  refine res1 (c0 := [[(cb, _)], Bm]) (c := [(cb, _) :: Bm]) rfl rfl (by repeat (first | exact Pick.nil | exact Take.here | apply Pick.cons | apply Take.there)) rfl ?_
  exact ⟨_, ⟨mb, Bm, rfl, hB, hw⟩, rfl, rfl⟩

theorem cell_Store (B : World) (A : Atom) (cb : Nat) (k : Count) (l : List (Plc × Int)) (p : Plc) (w : Int) (hw : 0 ≤ w ∧ w < 18446744073709551616) (hA : CellsIs A cb l k) :
    Ctr Tryz.prog 91 [ptr cb, p.v, .int .u64 w] B [A] (fun u c => ∃ A', CellsIs A' cb (putw l p w) { k with stores := inc k.stores } ∧ u = .tuple #[] ∧ c = [A']) := by
  obtain ⟨mb, Bm, rfl, hB, hl⟩ := hA
  refine Ctr.conv (pre' := [[(cb, .cells (cellsC mb k) 176 (0, 0))], Bm]) rfl ?_
  refine Ctr.intro (n := 21) Tryz.func91 rfl Tryz.ntmps91 (Nat.le_of_ble_eq_true rfl) ?_
  refine W_seq ?_
  refine W_reg rfl ?_
  refine O_es (e_box (cs := #[_, _, _]) rfl rfl) ?_
  rintro _ _ ⟨b4, rfl, rfl⟩
  refine O_nil ?_
  refine W_seq ?_
  refine W_seq ?_
  refine W_reg rfl ?_
  refine O_qs (q_move rfl) ?_
  refine O_qs (q_eqnil Tryz.runUnderlying134 rfl rfl) ?_
  refine O_nil ?_
  refine W_false rfl ?_
  refine W_skip ?_
  refine W_seq ?_
  refine W_reg rfl ?_
  refine O_qs (q_move rfl) ?_
  refine O_qs (q_nil rfl) ?_
  refine O_qs (q_fa fa_176_1 rfl) ?_
  refine O_qs (q_fa fa_80_1 rfl) ?_
  refine O_qs (q_load Tryz.isAgg3 rfl (rd_chunk (by repeat (first | exact List.Mem.head _ | apply List.Mem.tail)) rfl)) ?_
  refine O_qs (q_add (c := inc k.stores) rfl rfl rfl) ?_
  refine O_qs (q_nil rfl) ?_
  refine O_qs (q_fa fa_176_1 rfl) ?_
  refine O_qs (q_fa fa_80_1 rfl) ?_
  refine O_en (e_store Tryz.sizeOf3 rfl rfl rfl (by repeat (first | exact Upd.here | apply Upd.there)) rfl (by simp only [setAll, List.setIfInBounds_toArray, List.set_cons_succ, List.set_cons_zero, Nat.reduceAdd, Nat.zero_add] <;> rfl)) ?_
  rintro _ _ ⟨rfl, rfl⟩
  refine O_nil ?_
  refine W_reg rfl ?_
  refine O_qs (q_move rfl) ?_
  refine O_qs (q_loadN (vs := [_, _, _]) Tryz.isAgg51 Tryz.sizeOf51 rfl (rd_range (by repeat (first | exact List.Mem.head _ | apply List.Mem.tail)) rfl)) ?_
  refine O_qs (q_move rfl) ?_
  refine O_es (e_cf Tryz.call110 rfl (fun wd hwd => (cell_put _ Bm cb mb { k with stores := inc k.stores } l p w hB)) (by repeat (first | exact Pick.nil | exact Take.here | apply Pick.cons | apply Take.there))) ?_
  rintro _ _ ⟨_, ⟨A', hA', rfl⟩, rfl⟩
  refine O_nil ?_
  refine res0 (c0 := [[(cb, _)], A']) (c := [(cb, _) :: A']) rfl (by repeat (first | exact Pick.nil | exact Take.here | apply Pick.cons | apply Take.there)) rfl ?_
  exact ⟨_, ⟨mb, A', rfl, hA', hl.putw p hw⟩, rfl, rfl⟩

theorem cell_Count (B : World) (A : Atom) (cb : Nat) (k : Count) (l : List (Plc × Int)) (hA : CellsIs A cb l k) :
    Ctr Tryz.prog 79 [ptr cb] B [A] (fun u c => u = k.v ∧ c = [A]) := by
  obtain ⟨mb, Bm, rfl, hB, hl⟩ := hA
  refine Ctr.conv (pre' := [[(cb, .cells (cellsC mb k) 176 (0, 0))], Bm]) rfl ?_
  refine Ctr.intro (n := 10) Tryz.func79 rfl Tryz.ntmps79 (Nat.le_of_ble_eq_true rfl) ?_
  refine W_seq ?_
  refine W_reg rfl ?_
  refine O_es (e_alloc (cs := #[.int .i64 0, .int .i64 0, .int .i64 0, .int .i64 0, .int .i64 0]) Tryz.zeroValue80 rfl) ?_
  rintro _ _ ⟨b2, rfl, rfl⟩
  refine O_nil ?_
  refine W_seq ?_
  refine W_seq ?_
  refine W_reg rfl ?_
  refine O_qs (q_move rfl) ?_
  refine O_qs (q_eqnil Tryz.runUnderlying134 rfl rfl) ?_
  refine O_nil ?_
  refine W_false rfl ?_
  refine W_skip ?_
  refine W_seq ?_
  refine W_reg rfl ?_
  refine O_qs (q_move rfl) ?_
  refine O_qs (q_nil rfl) ?_
  refine O_qs (q_fa fa_176_1 rfl) ?_
  refine O_qs (q_loadN (vs := [_, _, _, _, _]) Tryz.isAgg80 Tryz.sizeOf80 rfl (rd_range (by repeat (first | exact List.Mem.head _ | apply List.Mem.tail)) rfl)) ?_
  refine O_en (e_storeN (vs := [_, _, _, _, _]) Tryz.sizeOf80 rfl rfl rfl (by repeat (first | exact Upd.here | apply Upd.there)) rfl (by simp only [setAll, List.setIfInBounds_toArray, List.set_cons_succ, List.set_cons_zero, Nat.reduceAdd, Nat.zero_add] <;> rfl)) ?_
  rintro _ _ ⟨rfl, rfl⟩
  refine O_nil ?_
  refine W_ret ?_
  refine resL (c0 := [[(cb, _)], Bm]) (c := [(cb, _) :: Bm]) rfl (.cell (us := [_, _, _, _, _]) Tryz.isAgg80 Tryz.sizeOf80 rfl (rd_range (by repeat (first | exact List.Mem.head _ | apply List.Mem.tail)) rfl) .nil) (by repeat (first | exact Pick.nil | exact Take.here | apply Pick.cons | apply Take.there)) rfl ?_
  exact ⟨rfl, rfl⟩

/-! ### The plain world -/
@[reducible] def wraw (wb cb : Nat) : Atom := [(wb, .cells #[ptr cb] 153 (0, 0))]
@[reducible] def wI (wb : Nat) : Value := .iface 33 (ptr wb)

theorem world_New (B : World) : Ctr Tryz.prog 55 [] B [] (fun u c => ∃ wb A, PlainIs A wb [] Count.zero ∧ u = ptr wb ∧ c = [A]) := by
  refine Ctr.intro (n := 4) Tryz.func55 rfl Tryz.ntmps55 (Nat.le_of_ble_eq_true rfl) ?_
  refine W_seq ?_
  refine W_reg rfl ?_
  refine O_qs (q_assign rfl) ?_
  refine O_nil ?_
  refine W_seq ?_
  refine W_reg rfl ?_
  refine O_es (e_cf Tryz.call89 rfl (fun wd hwd => (cell_New _)) (by repeat (first | exact Pick.nil | exact Take.here | apply Pick.cons | apply Take.there))) ?_
  rintro _ _ ⟨_, ⟨cb, A, hA, rfl, rfl⟩, rfl⟩
  refine O_qs (q_build rfl (bld_153 (cs := [_]) rfl)) ?_
  refine O_es (e_box (cs := #[_]) rfl rfl) ?_
  rintro _ _ ⟨b3, rfl, rfl⟩
  refine O_qs (q_assign rfl) ?_
  refine O_nil ?_
  refine W_ret ?_
  refine res1 (c0 := [[(b3, _)], A]) (c := [(b3, _) :: A]) rfl rfl (by repeat (first | exact Pick.nil | exact Take.here | apply Pick.cons | apply Take.there)) rfl ?_
  exact ⟨b3, _, ⟨cb, A, rfl, hA⟩, rfl, rfl⟩

theorem world_words (B : World) (wb cb : Nat) : Ctr Tryz.prog 78 [ptr wb] B [wraw wb cb] (fun u c => u = ptr cb ∧ c = [wraw wb cb]) := by
  refine Ctr.intro (n := 9) Tryz.func78 rfl Tryz.ntmps78 (Nat.le_of_ble_eq_true rfl) ?_
  refine W_seq ?_
  refine W_reg rfl ?_
  refine O_qs (q_assign rfl) ?_
  refine O_nil ?_
  refine W_seq ?_
  refine W_seq ?_
  refine W_reg rfl ?_
  refine O_qs (q_move rfl) ?_
  refine O_qs (q_eqnil Tryz.runUnderlying33 rfl rfl) ?_
  refine O_nil ?_
  refine W_false rfl ?_
  refine W_skip ?_
  refine W_seq ?_
  refine W_reg rfl ?_
  refine O_qs (q_move rfl) ?_
  refine O_qs (q_nil rfl) ?_
  refine O_qs (q_fa fa_153_0 rfl) ?_
  refine O_qs (q_load Tryz.isAgg134 rfl (rd_chunk (by repeat (first | exact List.Mem.head _ | apply List.Mem.tail)) rfl)) ?_
  refine O_qs (q_assign rfl) ?_
  refine O_nil ?_
  refine W_ret ?_
  refine res1 (c0 := [wraw wb cb]) rfl rfl (by repeat (first | exact Pick.nil | exact Take.here | apply Pick.cons | apply Take.there)) rfl ?_
  exact ⟨rfl, rfl⟩

theorem world_Load (B : World) (A : Atom) (wb : Nat) (k : Count) (l : List (Plc × Int)) (a : At) (hA : PlainIs A wb l k) :
    Ctr Tryz.prog 172 [ptr wb, a.v] B [A] (fun u c => ∃ A', PlainIs A' wb l { k with loads := inc k.loads } ∧ u = (Val.mk (mem l a.place) 0 false).v ∧ c = [A']) := by
  obtain ⟨cb, Bm, rfl, hB⟩ := hA
  refine Ctr.conv (pre' := [wraw wb cb, Bm]) rfl ?_
  refine Ctr.intro (n := 11) Tryz.func172 rfl Tryz.ntmps172 (Nat.le_of_ble_eq_true rfl) ?_
  refine W_seq ?_
  refine W_reg rfl ?_
  refine O_es (e_box (cs := #[_, _, _, _]) rfl rfl) ?_
  rintro _ _ ⟨b3, rfl, rfl⟩
  refine O_es (e_alloc (cs := #[.int .u64 0, .int .i64 0, .bool false]) Tryz.zeroValue69 rfl) ?_
  rintro _ _ ⟨b4, rfl, rfl⟩
  refine O_nil ?_
  refine W_seq ?_
  refine W_draw [[], [0], [], [2], [0, 1, 2, 3], [0, 1, 2, 3, 4], [0, 1, 2, 3, 4, 5]] rfl rfl rfl ?_
  refine V.qs 0 rfl rfl (q_move rfl) ?_
  refine V.qs 2 rfl rfl (q_fa fa_54_0 rfl) ?_
  refine V.qs 3 rfl rfl (q_loadN (vs := [_, _, _]) Tryz.isAgg51 Tryz.sizeOf51 rfl (rd_range (by repeat (first | exact List.Mem.head _ | apply List.Mem.tail)) rfl)) ?_
  refine V.qs 1 rfl rfl (q_cf Tryz.call78 rfl (fun wd hwd => (world_words _ wb cb)) (by repeat (first | exact Pick.nil | exact Take.here | apply Pick.cons | apply Take.there))) ?_
  refine V.e1s 4 [] rfl rfl rfl (e_cf Tryz.call174 rfl (fun wd hwd => (cell_Load _ Bm cb k l a.place hB)) (by repeat (first | exact Pick.nil | exact Take.here | apply Pick.cons | apply Take.there))) ?_
  rintro _ _ ⟨_, ⟨A', hA', rfl, rfl⟩, rfl⟩
  refine ⟨st_nil, ?_⟩
  refine V.qs 5 rfl rfl (q_build rfl (bld_69 (cs := [_, _, _]) rfl)) ?_
  refine V.e1n 6 [] rfl rfl rfl (e_storeN (vs := [_, _, _]) Tryz.sizeOf69 rfl rfl rfl (by repeat (first | exact Upd.here | apply Upd.there)) rfl (by simp only [setAll, List.setIfInBounds_toArray, List.set_cons_succ, List.set_cons_zero, Nat.reduceAdd, Nat.zero_add] <;> rfl)) ?_
  rintro _ _ ⟨rfl, rfl⟩
  refine ⟨st_nil, ?_⟩
  refine V.fin rfl ?_
  refine W_ret ?_
  refine resL (c0 := [wraw wb cb, A']) (c := [(wb, _) :: A']) rfl (.cell (us := [_, _, _]) Tryz.isAgg69 Tryz.sizeOf69 rfl (rd_range (by repeat (first | exact List.Mem.head _ | apply List.Mem.tail)) rfl) .nil) (by repeat (first | exact Pick.nil | exact Take.here | apply Pick.cons | apply Take.there)) rfl ?_
  exact ⟨_, ⟨cb, A', rfl, hA'⟩, rfl, rfl⟩

theorem world_Store (B : World) (A : Atom) (wb : Nat) (k : Count) (l : List (Plc × Int)) (a : At) (v : Val) (hw : 0 ≤ v.word ∧ v.word < 18446744073709551616) (hA : PlainIs A wb l k) :
    Ctr Tryz.prog 57 [ptr wb, a.v, v.v] B [A] (fun u c => ∃ A', PlainIs A' wb (putw l a.place v.word) { k with stores := inc k.stores } ∧ u = .tuple #[] ∧ c = [A']) := by
  obtain ⟨cb, Bm, rfl, hB⟩ := hA
  refine Ctr.conv (pre' := [wraw wb cb, Bm]) rfl ?_
  refine Ctr.intro (n := 13) Tryz.func57 rfl Tryz.ntmps57 (Nat.le_of_ble_eq_true rfl) ?_
  refine W_seq ?_
  refine W_reg rfl ?_
  refine O_es (e_box (cs := #[_, _, _, _]) rfl rfl) ?_
  rintro _ _ ⟨b4, rfl, rfl⟩
  refine O_es (e_box (cs := #[_, _, _]) rfl rfl) ?_
  rintro _ _ ⟨b5, rfl, rfl⟩
  refine O_nil ?_
  refine W_draw [[], [0], [], [2], [], [4], [0, 1, 2, 3, 4, 5]] rfl rfl rfl ?_
  refine V.qs 0 rfl rfl (q_move rfl) ?_
  refine V.qs 2 rfl rfl (q_fa fa_54_0 rfl) ?_
  refine V.qs 3 rfl rfl (q_loadN (vs := [_, _, _]) Tryz.isAgg51 Tryz.sizeOf51 rfl (rd_range (by repeat (first | exact List.Mem.head _ | apply List.Mem.tail)) rfl)) ?_
  refine V.qs 4 rfl rfl (q_fa fa_69_0 rfl) ?_
  refine V.qs 5 rfl rfl (q_load Tryz.isAgg23 rfl (rd_chunk (by repeat (first | exact List.Mem.head _ | apply List.Mem.tail)) rfl)) ?_
  refine V.qs 1 rfl rfl (q_cf Tryz.call78 rfl (fun wd hwd => (world_words _ wb cb)) (by repeat (first | exact Pick.nil | exact Take.here | apply Pick.cons | apply Take.there))) ?_
  refine V.e1s 6 [] rfl rfl rfl (e_cf Tryz.call91 rfl (fun wd hwd => (cell_Store _ Bm cb k l a.place v.word hw hB)) (by repeat (first | exact Pick.nil | exact Take.here | apply Pick.cons | apply Take.there))) ?_
  rintro _ _ ⟨_, ⟨A', hA', rfl, rfl⟩, rfl⟩
  refine ⟨st_nil, ?_⟩
  refine V.fin rfl ?_
  refine res0 (c0 := [wraw wb cb, A']) (c := [(wb, _) :: A']) rfl (by repeat (first | exact Pick.nil | exact Take.here | apply Pick.cons | apply Take.there)) rfl ?_
  exact ⟨_, ⟨cb, A', rfl, hA'⟩, rfl, rfl⟩

theorem world_Count (B : World) (A : Atom) (wb : Nat) (k : Count) (l : List (Plc × Int)) (hA : PlainIs A wb l k) :
    Ctr Tryz.prog 27 [ptr wb] B [A] (fun u c => u = k.v ∧ c = [A]) := by
  obtain ⟨cb, Bm, rfl, hB⟩ := hA
  refine Ctr.conv (pre' := [wraw wb cb, Bm]) rfl ?_
  refine Ctr.intro (n := 6) Tryz.func27 rfl Tryz.ntmps27 (Nat.le_of_ble_eq_true rfl) ?_
  refine W_seq ?_
  refine W_reg rfl ?_
  refine O_es (e_alloc (cs := #[.int .i64 0, .int .i64 0, .int .i64 0, .int .i64 0, .int .i64 0]) Tryz.zeroValue80 rfl) ?_
  rintro _ _ ⟨b2, rfl, rfl⟩
  refine O_nil ?_
  refine W_seq ?_
  refine W_reg rfl ?_
  refine O_qs (q_move rfl) ?_
  refine O_qs (q_cf Tryz.call78 rfl (fun wd hwd => (world_words _ wb cb)) (by repeat (first | exact Pick.nil | exact Take.here | apply Pick.cons | apply Take.there))) ?_
  refine O_qs (q_cf Tryz.call79 rfl (fun wd hwd => (cell_Count _ Bm cb k l hB)) (by repeat (first | exact Pick.nil | exact Take.here | apply Pick.cons | apply Take.there))) ?_
  refine O_en (e_storeN (vs := [_, _, _, _, _]) Tryz.sizeOf80 rfl rfl rfl (by repeat (first | exact Upd.here | apply Upd.there)) rfl (by simp only [setAll, List.setIfInBounds_toArray, List.set_cons_succ, List.set_cons_zero, Nat.reduceAdd, Nat.zero_add] <;> rfl)) ?_
  rintro _ _ ⟨rfl, rfl⟩
  refine O_nil ?_
  refine W_ret ?_
  refine resL (c0 := [wraw wb cb, Bm]) (c := [(wb, _) :: Bm]) rfl (.cell (us := [_, _, _, _, _]) Tryz.isAgg80 Tryz.sizeOf80 rfl (rd_range (by repeat (first | exact List.Mem.head _ | apply List.Mem.tail)) rfl) .nil) (by repeat (first | exact Pick.nil | exact Take.here | apply Pick.cons | apply Take.there)) rfl ?_
  exact ⟨rfl, rfl⟩

theorem world_Start (B : World) (A : Atom) (wb : Nat) (k : Count) (l : List (Plc × Int)) (hA : PlainIs A wb l k) :
    Ctr Tryz.prog 80 [wI wb] B [A] (fun u c => ∃ A', PlainIs A' wb (putw l epochP 1) { k with stores := inc k.stores } ∧ u = .tuple #[] ∧ c = [A']) := by
  refine Ctr.intro (n := 12) Tryz.func80 rfl Tryz.ntmps80 (Nat.le_of_ble_eq_true rfl) ?_
  refine W_seq ?_
  refine W_reg rfl ?_
  refine O_qs (q_move rfl) ?_
  refine O_qs (q_nenilI Tryz.runUnderlying124 rfl rfl) ?_
  refine O_nil ?_
  refine W_true rfl ?_
  refine W_draw [[], [], [1], [], [0], [0, 4], [0, 4, 5], [0, 1, 2, 3, 4, 5, 6]] rfl rfl rfl ?_
  refine V.qs 0 rfl rfl (q_move rfl) ?_
  refine V.qs 3 rfl rfl (q_build rfl (bld_69 (cs := [_, _, _]) rfl)) ?_
  refine V.qs 4 rfl rfl (q_mkF rfl rfl) ?_
  refine V.qs 5 rfl rfl (q_nilM (by intro w; kernel_rfl) rfl) ?_
  refine V.qs 6 rfl rfl (q_move rfl) ?_
  refine V.qs 1 rfl rfl (q_cf Tryz.call62 rfl (fun wd hwd => (place_Epoch _)) (by repeat (first | exact Pick.nil | exact Take.here | apply Pick.cons | apply Take.there))) ?_
  refine V.qs 2 rfl rfl (q_build rfl (bld_54 (cs := [_, _, _, _]) rfl)) ?_
  refine V.e1s 7 [] rfl rfl rfl (e_inv (f := 57) (by intro args w; kernel_rfl) rfl rfl (fun wd hwd => (world_Store _ A wb k l ⟨epochP, 0⟩ ⟨1, 0, false⟩ (by decide) hA)) (by repeat (first | exact Pick.nil | exact Take.here | apply Pick.cons | apply Take.there))) ?_
  rintro _ _ ⟨_, ⟨A', hA', rfl, rfl⟩, rfl⟩
  refine ⟨st_nil, ?_⟩
  refine V.fin rfl ?_
  refine res0 (c0 := [A']) rfl (by repeat (first | exact Pick.nil | exact Take.here | apply Pick.cons | apply Take.there)) rfl ?_
  exact ⟨A', hA', rfl, rfl⟩
end Go.Proofs.YtbfplncdmbjjhaaGreat
