/-
  The law of a lane at any level.
-/
import Derived.Test.YtbfplncdmbjjhaaGreatMe
import Derived.Test.YtbfplncdmbjjhaaGreatRl
set_option linter.unusedSimpArgs false
set_option linter.unusedVariables false
namespace Go.Proofs.YtbfplncdmbjjhaaGreat
open Go Go.SL

/-! ### Equal values -/
section
variable {M : Mach} {all : Array Oper} {env : Env} {ctx : Ctx} {dst : Option Tmp} {ty : TypeId} {pos : String} {aft : Array Edge} {x y : Operand} {t yt : TypeId}
theorem q_eqbS {a : Bool} (hu : ∀ w, (underlying t).run M.P w = .ok .bool w) (hx : evalO env x = some (.bool a)) (hy : evalO env y = some (.bool a)) : QY M all ⟨dst, .binOp .eql t x y yt, ty, pos, aft, none⟩ env ctx (.bool true) := by
  have h := q_eqb (M := M) (all := all) (ctx := ctx) (dst := dst) (ty := ty) (pos := pos) (aft := aft) (yt := yt) hu hx hy
  rw [beq_self_eq_true] at h
  exact h
theorem q_eqlS {k : IntKind} {a : Int} (hx : evalO env x = some (.int k a)) (hy : evalO env y = some (.int k a)) : QY M all ⟨dst, .binOp .eql t x y yt, ty, pos, aft, none⟩ env ctx (.bool true) := by
  have h := q_eql (M := M) (all := all) (ctx := ctx) (dst := dst) (ty := ty) (pos := pos) (aft := aft) (yt := yt) (t := t) hx hy
  rw [decide_eq_true (rfl : a = a)] at h
  exact h
theorem q_eqPlc {p : Plc} (hM : M.P = Tryz.prog) (hx : evalO env x = some p.v) (hy : evalO env y = some p.v) :
    QY M all ⟨dst, .binOp .eql 51 x y yt, ty, pos, aft, none⟩ env ctx (.bool true) :=
  q_bin (M := M) (all := all) (ctx := ctx) (dst := dst) (ty := ty) (pos := pos) (aft := aft) (yt := yt) (op := .eql) (t := 51) (v := .bool true) (fun w => by
    have := eql_51 (x := x) (y := y) (a0 := p.kind) (b0 := p.kind) (a1 := p.slot) (b1 := p.slot) (a2 := p.part) (b2 := p.part) w
    rw [hM]
    simpa using this) hx hy
end

theorem sub_len {α : Type} : ∀ (L1 L2 : List α), L1.Nodup → (∀ x, x ∈ L1 → x ∈ L2) → L1.length ≤ L2.length
  | [], L2, _, _ => Nat.zero_le _
  | x :: r, L2, hn, hs => by
    obtain ⟨A, B, rfl⟩ := List.append_of_mem (hs x (by simp))
    rw [List.nodup_cons] at hn
    have := sub_len r (A ++ B) hn.2 fun y hy => by
      have h1 := hs y (List.mem_cons_of_mem _ hy)
      simp only [List.mem_append, List.mem_cons] at h1 ⊢
      rcases h1 with h | rfl | h
      · exact .inl h
      · exact absurd hy hn.1
      · exact .inr h
    simp only [List.length_append, List.length_cons] at this ⊢
    omega
theorem mem_key {l : List (Plc × Int)} {p : Plc} (h : mem l p ≠ 0) : p ∈ l.map (·.1) := by
  refine Classical.byContradiction fun hn => h ?_
  unfold mem
  rw [mget_none l p hn]
  rfl
theorem key_mem {l : List (Plc × Int)} (hk : Keys l) (hw : Wds l) {p : Plc} (h : p ∈ l.map (·.1)) : mem l p ≠ 0 := by
  obtain ⟨⟨q, w⟩, hm, rfl⟩ := List.mem_map.1 h
  have h1 := hw q w hm
  have : mget l q = some w := by
    clear h hw
    induction l with
    | nil => cases hm
    | cons x r ih =>
      obtain ⟨q', w'⟩ := x
      simp only [Keys, List.map_cons, List.nodup_cons] at hk
      simp only [mget]
      rcases List.mem_cons.1 hm with e | hm'
      · simp only [Prod.mk.injEq] at e
        rw [if_pos e.1, e.2]
      · have hne : ¬ q = q' := fun e => hk.1 (by rw [← e]; exact List.mem_map.2 ⟨_, hm', rfl⟩)
        rw [if_neg hne]
        exact ih hk.2 hm'
  simp only [mem, this, Option.getD_some]
  omega
theorem len_le {l l2 : List (Plc × Int)} (hk : Keys l) (hw : Wds l) (hm : mem l = mem l2) : l.length ≤ l2.length := by
  have := sub_len (l.map (fun x : Plc × Int => x.1)) (l2.map (fun x : Plc × Int => x.1)) hk fun p hp => mem_key (by rw [← hm]; exact key_mem hk hw hp)
  simpa using this

theorem law15_memory2 (B : World) (A : Atom) (wb : Nat) (k : Count) (l : List (Plc × Int)) (hA : PlainIs A wb l k) (mb : Nat) (R : Atom) (v : Value) (l2 : List (Plc × Int)) (hR : Row layO 147 R v l2) (hl2 : l2.length ≤ 1000000) (hk2 : Keys l2) (hm : mem l = mem l2) :
    Ctr Tryz.prog 24 [ptr wb, ptr mb] B [A, oraw mb v, R] (fun u c => u = .bool true ∧ c = [A, oraw mb v, R]) :=
  law15_memory B A wb k l hA (Nat.le_trans (len_le hA.keys hA.wds hm) hl2) mb R v l2 hR hl2 hk2 hm

/-! ### What happens to both memories -/
structure Act where
  kind : Int
  p : Plc
  w : Int
def Act.l (x : Act) : List Value := [.int .i64 x.kind, .int .i64 x.p.kind, .int .i64 x.p.slot, .int .i64 x.p.part, .int .u64 x.w]
def layA : Lay Act where
  enc := Act.l
  size := 5
  pos := by decide
  len := fun _ => rfl
  one := by
    intro a u h
    simp only [Act.l, List.mem_cons, List.not_mem_nil, or_false] at h
    rcases h with rfl | rfl | rfl | rfl | rfl <;> rfl
def orTop (w : Int) : Int := IntKind.u64.wrap ((BitVec.ofInt IntKind.u64.bits w ||| BitVec.ofInt IntKind.u64.bits 9223372036854775808).toNat : Nat)
def Act.wr (x : Act) (m : Mem) : Option (Plc × Int) :=
  if x.kind = 1 then some (epochP, IntKind.u64.wrap (m epochP + 1)) else if x.kind = 2 then some (x.p, x.w) else if x.kind = 3 then some (x.p, orTop (m x.p)) else none
theorem u64_wd (x : Int) : Wd (IntKind.u64.wrap x) := by
  unfold Wd
  simp only [IntKind.wrap, IntKind.bits, IntKind.signed, Bool.false_and, Bool.false_eq_true, if_false]
  omega
theorem mem_mwr (l : List (Plc × Int)) (o : Option (Plc × Int)) : mem (mwr l o) = upd (mem l) o := by
  cases o with
  | none => rfl
  | some x => obtain ⟨p, w⟩ := x; funext q; exact mem_mput' l p q w
theorem mwr_keys {l : List (Plc × Int)} (h : Keys l) (o : Option (Plc × Int)) : Keys (mwr l o) := by
  cases o with
  | none => exact h
  | some x => exact h.put _ _
theorem mwr_len (l : List (Plc × Int)) (o : Option (Plc × Int)) : (mwr l o).length ≤ l.length + 1 := by
  cases o with
  | none => exact Nat.le_succ _
  | some x => exact mput_length ..

def stK (k : Count) (o : Option (Plc × Int)) : Count := if o.isSome then { k with stores := inc k.stores } else k

theorem law15_disturb (B : World) (A : Atom) (wb : Nat) (k : Count) (l : List (Plc × Int)) (hA : PlainIs A wb l k) (mb : Nat) (R : Atom) (v : Value) (l2 : List (Plc × Int)) (hR : Row layO 147 R v l2) (hl2 : l2.length ≤ 1000000) (x : Act) (hx : Wd x.w) :
    Ctr Tryz.prog 16 [ptr wb, ptr mb, .agg x.l.toArray] B [A, oraw mb v, R]
      (fun u c => ∃ A' R' v', PlainIs A' wb (wrl l (x.wr (mem l2))) (stK k (x.wr (mem l2))) ∧ Row layO 147 R' v' (mwr l2 (x.wr (mem l2))) ∧ u = .tuple #[] ∧ c = [A', oraw mb v', R']) := by
  refine Ctr.intro (n := 39) Tryz.func16 rfl Tryz.ntmps16 (Nat.le_of_ble_eq_true rfl) ?_
  refine W_seq ?_
  refine W_reg rfl ?_
  refine O_es (e_box (cs := #[_, _, _, _, _]) rfl rfl) ?_
  rintro _ _ ⟨b5, rfl, rfl⟩
  refine O_nil ?_
  refine W_seq ?_
  refine W_reg rfl ?_
  refine O_qs (q_fa fa_60_1 rfl) ?_
  refine O_qs (q_loadN (vs := [_, _, _]) Tryz.isAgg51 Tryz.sizeOf51 rfl (rd_range (by repeat (first | exact List.Mem.head _ | apply List.Mem.tail)) rfl)) ?_
  refine O_es (e_alloc (cs := #[.int .i64 0, .int .i64 0, .int .i64 0]) Tryz.zeroValue51 rfl) ?_
  rintro _ _ ⟨b6, rfl, rfl⟩
  refine O_en (e_storeN (vs := [_, _, _]) Tryz.sizeOf51 rfl rfl rfl (by repeat (first | exact Upd.here | apply Upd.there)) rfl (by simp only [setAll, List.setIfInBounds_toArray, List.set_cons_succ, List.set_cons_zero, Nat.reduceAdd, Nat.zero_add] <;> rfl)) ?_
  rintro _ _ ⟨rfl, rfl⟩
  refine O_nil ?_
  refine W_seq ?_
  refine W_reg rfl ?_
  refine O_qs (q_fa fa_60_2 rfl) ?_
  refine O_qs (q_load Tryz.isAgg23 rfl (rd_chunk (by repeat (first | exact List.Mem.head _ | apply List.Mem.tail)) rfl)) ?_
  refine O_qs (q_assign rfl) ?_
  refine O_nil ?_
  refine W_seq ?_
  refine W_seq ?_
  refine W_reg rfl ?_
  refine O_qs (q_fa fa_60_0 rfl) ?_
  refine O_qs (q_load Tryz.isAgg3 rfl (rd_chunk (by repeat (first | exact List.Mem.head _ | apply List.Mem.tail)) rfl)) ?_
  refine O_nil ?_
  refine W_block ?_
  refine W_seq ?_
  refine W_reg rfl ?_
  refine O_qs (q_eql rfl rfl) ?_
  refine O_qs (q_assign rfl) ?_
  refine O_nil ?_
  refine W_cond rfl ?_ ?_
  · intro hc
    have h1 : x.kind = 1 := of_decide_eq_true hc
    have hw : x.wr (mem l2) = some (epochP, IntKind.u64.wrap (mem l2 epochP + 1)) := by simp [Act.wr, h1]
    refine W_seq ?_
    refine W_reg rfl ?_
    refine O_qs (q_cf Tryz.call62 rfl (fun wd hwd => (place_Epoch _)) (by repeat (first | exact Pick.nil | exact Take.here | apply Pick.cons | apply Take.there))) ?_
    refine O_en (e_storeN (vs := [_, _, _]) Tryz.sizeOf51 rfl rfl rfl (by repeat (first | exact Upd.here | apply Upd.there)) rfl (by simp only [setAll, List.setIfInBounds_toArray, List.set_cons_succ, List.set_cons_zero, Nat.reduceAdd, Nat.zero_add] <;> rfl)) ?_
    rintro _ _ ⟨rfl, rfl⟩
    refine O_nil ?_
    refine W_reg rfl ?_
    refine O_qs (q_move rfl) ?_
    refine O_qs (q_loadN (vs := [_, _, _]) Tryz.isAgg51 Tryz.sizeOf51 rfl (rd_range (by repeat (first | exact List.Mem.head _ | apply List.Mem.tail)) rfl)) ?_
    refine O_qs (q_cf Tryz.call58 rfl (fun wd hwd => (ref04_Get _ mb R v l2 epochP hR (by omega))) (by repeat (first | exact Pick.nil | exact Take.here | apply Pick.cons | apply Take.there))) ?_
    refine O_qs (q_add (c := IntKind.u64.wrap (mem l2 epochP + 1)) rfl rfl rfl) ?_
    refine O_qs (q_assign rfl) ?_
    refine O_nil ?_
    refine W_seq ?_
    refine W_reg rfl ?_
    refine O_qs (q_move rfl) ?_
    refine O_qs (q_loadN (vs := [_, _, _]) Tryz.isAgg51 Tryz.sizeOf51 rfl (rd_range (by repeat (first | exact List.Mem.head _ | apply List.Mem.tail)) rfl)) ?_
    refine O_qs (q_move rfl) ?_
    refine O_es (e_cf Tryz.call50 rfl (fun wd hwd => (ref04_Set _ mb R v l2 epochP (IntKind.u64.wrap (mem l2 epochP + 1)) hR (by omega))) (by repeat (first | exact Pick.nil | exact Take.here | apply Pick.cons | apply Take.there))) ?_
    rintro _ _ ⟨_, ⟨R', v', hR', rfl, rfl⟩, rfl⟩
    refine O_nil ?_
    refine W_reg rfl ?_
    refine O_qs (q_move rfl) ?_
    refine O_qs (q_loadN (vs := [_, _, _]) Tryz.isAgg51 Tryz.sizeOf51 rfl (rd_range (by repeat (first | exact List.Mem.head _ | apply List.Mem.tail)) rfl)) ?_
    refine O_qs (q_build rfl (bld_54 (cs := [_, _, _, _]) rfl)) ?_
    refine O_qs (q_move rfl) ?_
    refine O_qs (q_build rfl (bld_69 (cs := [_, _, _]) rfl)) ?_
    refine O_es (e_cf Tryz.call57 rfl (fun wd hwd => (world_Store _ A wb k l ⟨epochP, 0⟩ ⟨IntKind.u64.wrap (mem l2 epochP + 1), 0, false⟩ (u64_wd _) hA)) (by repeat (first | exact Pick.nil | exact Take.here | apply Pick.cons | apply Take.there))) ?_
    rintro _ _ ⟨_, ⟨A', hA', rfl, rfl⟩, rfl⟩
    refine O_nil ?_
    refine res0 (c0 := [A', oraw mb v', R']) rfl (by repeat (first | exact Pick.nil | exact Take.here | apply Pick.cons | apply Take.there)) rfl ?_
    rw [hw]
    exact ⟨A', R', v', hA', hR', rfl, rfl⟩
  intro hc
  have n1 : ¬ x.kind = 1 := of_decide_eq_false hc
  refine W_seq ?_
  refine W_reg rfl ?_
  refine O_qs (q_eql rfl rfl) ?_
  refine O_qs (q_assign rfl) ?_
  refine O_nil ?_
  refine W_cond rfl ?_ ?_
  · intro hc
    have h1 : x.kind = 2 := of_decide_eq_true hc
    have hw : x.wr (mem l2) = some (x.p, x.w) := by simp [Act.wr, h1]
    refine W_skip ?_
    refine W_seq ?_
    refine W_reg rfl ?_
    refine O_qs (q_move rfl) ?_
    refine O_qs (q_loadN (vs := [_, _, _]) Tryz.isAgg51 Tryz.sizeOf51 rfl (rd_range (by repeat (first | exact List.Mem.head _ | apply List.Mem.tail)) rfl)) ?_
    refine O_qs (q_move rfl) ?_
    refine O_es (e_cf Tryz.call50 rfl (fun wd hwd => (ref04_Set _ mb R v l2 x.p x.w hR (by omega))) (by repeat (first | exact Pick.nil | exact Take.here | apply Pick.cons | apply Take.there))) ?_
    rintro _ _ ⟨_, ⟨R', v', hR', rfl, rfl⟩, rfl⟩
    refine O_nil ?_
    refine W_reg rfl ?_
    refine O_qs (q_move rfl) ?_
    refine O_qs (q_loadN (vs := [_, _, _]) Tryz.isAgg51 Tryz.sizeOf51 rfl (rd_range (by repeat (first | exact List.Mem.head _ | apply List.Mem.tail)) rfl)) ?_
    refine O_qs (q_build rfl (bld_54 (cs := [_, _, _, _]) rfl)) ?_
    refine O_qs (q_move rfl) ?_
    refine O_qs (q_build rfl (bld_69 (cs := [_, _, _]) rfl)) ?_
    refine O_es (e_cf Tryz.call57 rfl (fun wd hwd => (world_Store _ A wb k l ⟨x.p, 0⟩ ⟨x.w, 0, false⟩ hx hA)) (by repeat (first | exact Pick.nil | exact Take.here | apply Pick.cons | apply Take.there))) ?_
    rintro _ _ ⟨_, ⟨A', hA', rfl, rfl⟩, rfl⟩
    refine O_nil ?_
    refine res0 (c0 := [A', oraw mb v', R']) rfl (by repeat (first | exact Pick.nil | exact Take.here | apply Pick.cons | apply Take.there)) rfl ?_
    rw [hw]
    exact ⟨A', R', v', hA', hR', rfl, rfl⟩
  intro hc
  have n2 : ¬ x.kind = 2 := of_decide_eq_false hc
  refine W_seq ?_
  refine W_reg rfl ?_
  refine O_qs (q_eql rfl rfl) ?_
  refine O_qs (q_assign rfl) ?_
  refine O_nil ?_
  refine W_cond rfl ?_ ?_
  · intro hc
    have h1 : x.kind = 3 := of_decide_eq_true hc
    have hw : x.wr (mem l2) = some (x.p, orTop (mem l2 x.p)) := by simp [Act.wr, h1]
    refine W_reg rfl ?_
    refine O_qs (q_move rfl) ?_
    refine O_qs (q_loadN (vs := [_, _, _]) Tryz.isAgg51 Tryz.sizeOf51 rfl (rd_range (by repeat (first | exact List.Mem.head _ | apply List.Mem.tail)) rfl)) ?_
    refine O_qs (q_cf Tryz.call58 rfl (fun wd hwd => (ref04_Get _ mb R v l2 x.p hR (by omega))) (by repeat (first | exact Pick.nil | exact Take.here | apply Pick.cons | apply Take.there))) ?_
    refine O_qs (q_orI (c := orTop (mem l2 x.p)) rfl rfl rfl) ?_
    refine O_qs (q_assign rfl) ?_
    refine O_nil ?_
    refine W_seq ?_
    refine W_reg rfl ?_
    refine O_qs (q_move rfl) ?_
    refine O_qs (q_loadN (vs := [_, _, _]) Tryz.isAgg51 Tryz.sizeOf51 rfl (rd_range (by repeat (first | exact List.Mem.head _ | apply List.Mem.tail)) rfl)) ?_
    refine O_qs (q_move rfl) ?_
    refine O_es (e_cf Tryz.call50 rfl (fun wd hwd => (ref04_Set _ mb R v l2 x.p (orTop (mem l2 x.p)) hR (by omega))) (by repeat (first | exact Pick.nil | exact Take.here | apply Pick.cons | apply Take.there))) ?_
    rintro _ _ ⟨_, ⟨R', v', hR', rfl, rfl⟩, rfl⟩
    refine O_nil ?_
    refine W_reg rfl ?_
    refine O_qs (q_move rfl) ?_
    refine O_qs (q_loadN (vs := [_, _, _]) Tryz.isAgg51 Tryz.sizeOf51 rfl (rd_range (by repeat (first | exact List.Mem.head _ | apply List.Mem.tail)) rfl)) ?_
    refine O_qs (q_build rfl (bld_54 (cs := [_, _, _, _]) rfl)) ?_
    refine O_qs (q_move rfl) ?_
    refine O_qs (q_build rfl (bld_69 (cs := [_, _, _]) rfl)) ?_
    refine O_es (e_cf Tryz.call57 rfl (fun wd hwd => (world_Store _ A wb k l ⟨x.p, 0⟩ ⟨orTop (mem l2 x.p), 0, false⟩ (u64_wd _) hA)) (by repeat (first | exact Pick.nil | exact Take.here | apply Pick.cons | apply Take.there))) ?_
    rintro _ _ ⟨_, ⟨A', hA', rfl, rfl⟩, rfl⟩
    refine O_nil ?_
    refine res0 (c0 := [A', oraw mb v', R']) rfl (by repeat (first | exact Pick.nil | exact Take.here | apply Pick.cons | apply Take.there)) rfl ?_
    rw [hw]
    exact ⟨A', R', v', hA', hR', rfl, rfl⟩
  intro hc
  have n3 : ¬ x.kind = 3 := of_decide_eq_false hc
  have hw : x.wr (mem l2) = none := by simp [Act.wr, n1, n2, n3]
  refine W_ret ?_
  refine res0 (c0 := [A, oraw mb v, R]) rfl (by repeat (first | exact Pick.nil | exact Take.here | apply Pick.cons | apply Take.there)) rfl ?_
  rw [hw]
  exact ⟨A, R, v, hA, hR, rfl, rfl⟩

theorem lane_Into (B : World) (lb cb : Nat) (x : Lane) : Ctr Tryz.prog 22 [ptr lb] B [laneA lb cb x] (fun u c => u = x.into.v ∧ c = [laneA lb cb x]) := by
  refine Ctr.intro (n := 10) Tryz.func22 rfl Tryz.ntmps22 (Nat.le_of_ble_eq_true rfl) ?_
  refine W_seq ?_
  refine W_reg rfl ?_
  refine O_es (e_alloc (cs := #[.int .u64 0, .int .i64 0, .bool false]) Tryz.zeroValue69 rfl) ?_
  rintro _ _ ⟨b2, rfl, rfl⟩
  refine O_nil ?_
  refine W_seq ?_
  refine W_seq ?_
  refine W_reg rfl ?_
  refine O_qs (q_move rfl) ?_
  refine O_qs (q_eqnil Tryz.runUnderlying48 rfl rfl) ?_
  refine O_nil ?_
  refine W_false rfl ?_
  refine W_skip ?_
  refine W_seq ?_
  refine W_reg rfl ?_
  refine O_qs (q_move rfl) ?_
  refine O_qs (q_nil rfl) ?_
  refine O_qs (q_fa fa_127_6 rfl) ?_
  refine O_qs (q_loadN (vs := [_, _, _]) Tryz.isAgg69 Tryz.sizeOf69 rfl (rd_range (by repeat (first | exact List.Mem.head _ | apply List.Mem.tail)) rfl)) ?_
  refine O_en (e_storeN (vs := [_, _, _]) Tryz.sizeOf69 rfl rfl rfl (by repeat (first | exact Upd.here | apply Upd.there)) rfl (by simp only [setAll, List.setIfInBounds_toArray, List.set_cons_succ, List.set_cons_zero, Nat.reduceAdd, Nat.zero_add] <;> rfl)) ?_
  rintro _ _ ⟨rfl, rfl⟩
  refine O_nil ?_
  refine W_ret ?_
  refine resL (c0 := [laneA lb cb x]) rfl (.cell (us := [_, _, _]) Tryz.isAgg69 Tryz.sizeOf69 rfl (rd_range (by repeat (first | exact List.Mem.head _ | apply List.Mem.tail)) rfl) .nil) (by repeat (first | exact Pick.nil | exact Take.here | apply Pick.cons | apply Take.there)) rfl ?_
  exact ⟨rfl, rfl⟩
theorem lane_Out (B : World) (lb cb : Nat) (x : Lane) : Ctr Tryz.prog 23 [ptr lb] B [laneA lb cb x] (fun u c => u = x.out.v ∧ c = [laneA lb cb x]) := by
  refine Ctr.intro (n := 10) Tryz.func23 rfl Tryz.ntmps23 (Nat.le_of_ble_eq_true rfl) ?_
  refine W_seq ?_
  refine W_reg rfl ?_
  refine O_es (e_alloc (cs := #[.int .u64 0, .int .i64 0, .bool false]) Tryz.zeroValue69 rfl) ?_
  rintro _ _ ⟨b2, rfl, rfl⟩
  refine O_nil ?_
  refine W_seq ?_
  refine W_seq ?_
  refine W_reg rfl ?_
  refine O_qs (q_move rfl) ?_
  refine O_qs (q_eqnil Tryz.runUnderlying48 rfl rfl) ?_
  refine O_nil ?_
  refine W_false rfl ?_
  refine W_skip ?_
  refine W_seq ?_
  refine W_reg rfl ?_
  refine O_qs (q_move rfl) ?_
  refine O_qs (q_nil rfl) ?_
  refine O_qs (q_fa fa_127_7 rfl) ?_
  refine O_qs (q_loadN (vs := [_, _, _]) Tryz.isAgg69 Tryz.sizeOf69 rfl (rd_range (by repeat (first | exact List.Mem.head _ | apply List.Mem.tail)) rfl)) ?_
  refine O_en (e_storeN (vs := [_, _, _]) Tryz.sizeOf69 rfl rfl rfl (by repeat (first | exact Upd.here | apply Upd.there)) rfl (by simp only [setAll, List.setIfInBounds_toArray, List.set_cons_succ, List.set_cons_zero, Nat.reduceAdd, Nat.zero_add] <;> rfl)) ?_
  rintro _ _ ⟨rfl, rfl⟩
  refine O_nil ?_
  refine W_ret ?_
  refine resL (c0 := [laneA lb cb x]) rfl (.cell (us := [_, _, _]) Tryz.isAgg69 Tryz.sizeOf69 rfl (rd_range (by repeat (first | exact List.Mem.head _ | apply List.Mem.tail)) rfl) .nil) (by repeat (first | exact Pick.nil | exact Take.here | apply Pick.cons | apply Take.there)) rfl ?_
  exact ⟨rfl, rfl⟩

theorem Lane.step_st (x : Lane) (e r : Int) (m : Mem) : (x.step e r m).st = 0 ∨ (x.step e r m).st = 1 ∨ (x.step e r m).st = 2 := by
  have hc : ∀ w : Val, comeSt w = 0 ∨ comeSt w = 1 ∨ comeSt w = 2 := fun w => by unfold comeSt; split <;> simp
  unfold Lane.step
  repeat' split
  all_goals first | exact .inl rfl | exact .inr (.inl rfl) | exact .inr (.inr rfl) | exact hc _ | skip
  unfold Lane.hold
  repeat' split
  all_goals first | exact .inl rfl | exact .inr (.inl rfl) | exact .inr (.inr rfl) | exact hc _ | skip
  unfold Lane.compare
  repeat' split
  all_goals first | exact .inl rfl | exact .inr (.inl rfl) | exact .inr (.inr rfl) | exact hc _
end Go.Proofs.YtbfplncdmbjjhaaGreat
