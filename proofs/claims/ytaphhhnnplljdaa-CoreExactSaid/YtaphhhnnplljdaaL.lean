/-
  Walks: the law of the core.
-/
import Derived.Test.YtaphhhnnplljdaaR2
set_option linter.unusedSimpArgs false
set_option linter.unusedVariables false
namespace Go.Proofs.Ytaphhhnnplljdaa
open Go Go.SL

theorem core_New_bad (B : World) (x : Conf) (hx : x.err ≠ 0) : Ctr Try.prog 8 [x.v] B [] (fun u c => u = .pointer none ∧ c = []) := by
  refine (core_New B x).mono ?_
  rintro u c (⟨_, h1, h2⟩ | ⟨h, _⟩)
  · exact ⟨h1, h2⟩
  · exact absurd h hx

theorem core_New_ok (B : World) (x : Conf) (hx : x.err = 0) : Ctr Try.prog 8 [x.v] B [] (fun u c => ∃ cb qb R v ring k h, QS R v ring k h 0 [] ∧ u = ptr cb ∧ c = [coreA cb qb x 0 ⟨0, 0⟩ 0, qraw qb v h 0, R]) := by
  refine (core_New B x).mono ?_
  rintro u c (⟨h, _⟩ | ⟨_, h⟩)
  · exact absurd hx h
  · exact h

theorem law13_list (B : World) (n : Int) : Ctr Try.prog 46 [.int .i64 n] B [] (fun u c => u = (Conf.mk 1 n 0 1 100).v ∧ c = []) := by
  refine Ctr.intro (n := 5) Try.func46 rfl Try.ntmps46 (Nat.le_of_ble_eq_true rfl) ?_
  refine W_seq ?_
  refine W_reg rfl ?_
  refine O_es (e_alloc (cs := #[.int .i64 0, .int .i64 0, .int .i64 0, .int .i64 0, .int .i64 0]) Try.zeroValue23 rfl) ?_
  rintro _ _ ⟨b2, rfl, rfl⟩
  refine O_nil ?_
  refine W_seq ?_
  refine W_reg rfl ?_
  refine O_qs (q_move rfl) ?_
  refine O_qs (q_build rfl (bld_23 (cs := [_, _, _, _, _]) rfl)) ?_
  refine O_en (e_storeN (vs := [_, _, _, _, _]) Try.sizeOf23 rfl rfl rfl (by repeat (first | exact Upd.here | apply Upd.there)) rfl (by simp only [setAll, List.setIfInBounds_toArray, List.set_cons_succ, List.set_cons_zero, Nat.reduceAdd, Nat.zero_add] <;> rfl)) ?_
  rintro _ _ ⟨rfl, rfl⟩
  refine O_nil ?_
  refine W_ret ?_
  refine resL (c0 := []) rfl (.cell (us := [_, _, _, _, _]) Try.isAgg23 Try.sizeOf23 rfl (rd_range (by repeat (first | exact List.Mem.head _ | apply List.Mem.tail)) rfl) .nil) (by repeat (first | exact Pick.nil | exact Take.here | apply Pick.cons | apply Take.there)) rfl ?_
  exact ⟨rfl, rfl⟩

theorem mem_put (l : List (Plc × Int)) (h : Keys l) (p : Plc) (w : Int) : mem (putw l p w) p = w := by
  rw [mem_putw l h, if_pos rfl]
theorem mem_mput (l : List (Plc × Int)) (p : Plc) (w : Int) : mem (mput l p w) p = w := by
  unfold mem
  rw [mget_put, if_pos rfl]
  rfl
theorem mput_length (l : List (Plc × Int)) (p : Plc) (w : Int) : (mput l p w).length ≤ l.length + 1 := by
  induction l with
  | nil => simp [mput]
  | cons x r ih =>
    obtain ⟨q, u⟩ := x
    simp only [mput]
    split
    · simp
    · simp only [List.length_cons]; omega

theorem law13_awake (B : World) : Ctr Try.prog 7 [] B [] (fun u c => u = .bool true ∧ c = []) := by
  have e4 : (Conf.mk 1 4 0 1 100).err = 0 := by decide
  have e0 : (Conf.mk 0 0 0 0 0).err ≠ 0 := by decide
  have h31 : holdErr (Conf.mk 1 4 0 1 100) ⟨0, 0⟩ ⟨3, 7⟩ = 0 := by decide
  have h32 : holdErr (Conf.mk 1 4 0 1 100) ⟨3, 7⟩ ⟨1, 0⟩ = 10 := by decide
  refine Ctr.intro (n := 89) Try.func7 rfl Try.ntmps7 (Nat.le_of_ble_eq_true rfl) ?_
  refine W_seq ?_
  refine W_reg rfl ?_
  refine O_qs (q_assign rfl) ?_
  refine O_nil ?_
  refine W_seq ?_
  refine W_reg rfl ?_
  refine O_qs (q_cf Try.call46 rfl (fun wd hwd => (law13_list _ 4)) (by repeat (first | exact Pick.nil | exact Take.here | apply Pick.cons | apply Take.there))) ?_
  refine O_es (e_cf Try.call8 rfl (fun wd hwd => (core_New_ok _ (Conf.mk 1 4 0 1 100) e4)) (by repeat (first | exact Pick.nil | exact Take.here | apply Pick.cons | apply Take.there))) ?_
  rintro _ _ ⟨_, ⟨cb, qb, R, v, ring, k, h, hq, rfl, rfl⟩, rfl⟩
  refine O_qs (q_assign rfl) ?_
  refine O_nil ?_
  refine W_seq ?_
  refine W_reg rfl ?_
  refine O_es (e_cf Try.call10 rfl (fun wd hwd => (world_New _)) (by repeat (first | exact Pick.nil | exact Take.here | apply Pick.cons | apply Take.there))) ?_
  rintro _ _ ⟨_, ⟨wb, A, hA, rfl, rfl⟩, rfl⟩
  refine O_qs (q_assign rfl) ?_
  refine O_nil ?_
  refine W_seq ?_
  refine W_reg rfl ?_
  refine O_qs (q_move rfl) ?_
  refine O_qs (q_mkI mki_35 rfl) ?_
  refine O_es (e_cf Try.call47 rfl (fun wd hwd => (world_Start _ A wb _ _ hA)) (by repeat (first | exact Pick.nil | exact Take.here | apply Pick.cons | apply Take.there))) ?_
  rintro _ _ ⟨_, ⟨A1, hA1, rfl, rfl⟩, rfl⟩
  refine O_nil ?_
  refine W_seq ?_
  refine W_reg rfl ?_
  refine O_qs (q_move rfl) ?_
  refine O_qs (q_move rfl) ?_
  refine O_qs (q_mkI mki_35 rfl) ?_
  refine O_es (e_cf Try.call48 rfl (fun wd hwd => (core_Check _ cb qb (Conf.mk 1 4 0 1 100) 0 ⟨0, 0⟩ 0 A1 wb _ _ hA1)) (by repeat (first | exact Pick.nil | exact Take.here | apply Pick.cons | apply Take.there))) ?_
  rintro _ _ ⟨_, ⟨A2, hA2, rfl, rfl⟩, rfl⟩
  refine O_nil ?_
  refine W_seq ?_
  refine W_reg rfl ?_
  refine O_qs (q_move rfl) ?_
  refine O_qs (q_move rfl) ?_
  refine O_qs (q_mkI mki_35 rfl) ?_
  have k2 := hA1.keys
  have m1 : mem (putw [] epochP 1) epochP = 1 := mem_put [] List.nodup_nil _ _
  rw [m1]
  have ep1 : epw 1 = 1 := by decide
  rw [ep1]
  refine O_es (e_cf Try.call49 rfl (fun wd hwd => (core_Valid _ cb qb (Conf.mk 1 4 0 1 100) 1 ⟨0, 0⟩ 0 A2 wb _ _ hA2)) (by repeat (first | exact Pick.nil | exact Take.here | apply Pick.cons | apply Take.there))) ?_
  rintro _ _ ⟨_, ⟨A3, hA3, rfl, rfl⟩, rfl⟩
  refine O_qs (q_assign rfl) ?_
  refine O_nil ?_
  refine W_seq ?_
  refine W_reg rfl ?_
  refine O_qs (q_move rfl) ?_
  have w1 : IntKind.u64.wrap 1 = 1 := wu64 (by decide)
  rw [m1, w1]
  simp only [decide_true, if_true]
  refine O_qs (q_cf Try.call36 rfl (fun wd hwd => (place_Epoch _)) (by repeat (first | exact Pick.nil | exact Take.here | apply Pick.cons | apply Take.there))) ?_
  refine O_qs (q_build rfl (bld_91 (cs := [_, _, _, _]) rfl)) ?_
  refine O_es (e_cf Try.call35 rfl (fun wd hwd => (world_Add _ A3 wb _ _ ⟨epochP, 0⟩ 1 hA3)) (by repeat (first | exact Pick.nil | exact Take.here | apply Pick.cons | apply Take.there))) ?_
  rintro _ _ ⟨_, ⟨A4, hA4, rfl, rfl⟩, rfl⟩
  refine O_nil ?_
  refine W_seq ?_
  refine W_reg rfl ?_
  refine O_qs (q_move rfl) ?_
  refine O_qs (q_move rfl) ?_
  refine O_qs (q_mkI mki_35 rfl) ?_
  have m2 : mem (putw (putw [] epochP 1) epochP (IntKind.u64.wrap (mem (putw [] epochP 1) epochP + 1))) epochP = 2 := by
    rw [mem_put _ k2, m1]
    exact wu64 (by decide)
  refine O_es (e_cf Try.call49 rfl (fun wd hwd => (core_Valid _ cb qb (Conf.mk 1 4 0 1 100) 1 ⟨0, 0⟩ 0 A4 wb _ _ hA4)) (by repeat (first | exact Pick.nil | exact Take.here | apply Pick.cons | apply Take.there))) ?_
  rintro _ _ ⟨_, ⟨A5, hA5, rfl, rfl⟩, rfl⟩
  refine O_qs (q_assign rfl) ?_
  refine O_nil ?_
  refine W_seq ?_
  refine W_reg rfl ?_
  refine O_qs (q_move rfl) ?_
  refine O_qs (q_build rfl (bld_43 (cs := [_, _]) rfl)) ?_
  have n21 : ¬ (2 : Int) = 1 := by decide
  rw [m2, w1, if_neg n21]
  have d21 : decide ((2 : Int) = 1) = false := by decide
  rw [d21]
  refine O_es (e_cf Try.call50 rfl (fun wd hwd => (core_Hold _ cb qb (Conf.mk 1 4 0 1 100) 1 ⟨0, 0⟩ (inc 0) ⟨3, 7⟩)) (by repeat (first | exact Pick.nil | exact Take.here | apply Pick.cons | apply Take.there))) ?_
  rintro _ _ ⟨_, ⟨rfl, rfl⟩, rfl⟩
  refine O_qs (q_assign rfl) ?_
  refine O_nil ?_
  refine W_seq ?_
  refine W_reg rfl ?_
  refine O_qs (q_move rfl) ?_
  refine O_qs (q_build rfl (bld_43 (cs := [_, _]) rfl)) ?_
  rw [h31, if_pos rfl]
  refine O_es (e_cf Try.call50 rfl (fun wd hwd => (core_Hold _ cb qb (Conf.mk 1 4 0 1 100) 1 ⟨3, 7⟩ (inc 0) ⟨1, 0⟩)) (by repeat (first | exact Pick.nil | exact Take.here | apply Pick.cons | apply Take.there))) ?_
  rintro _ _ ⟨_, ⟨rfl, rfl⟩, rfl⟩
  refine O_qs (q_assign rfl) ?_
  refine O_nil ?_
  refine W_seq ?_
  refine W_reg rfl ?_
  refine O_qs (q_move rfl) ?_
  have n10 : ¬ (10 : Int) = 0 := by decide
  rw [h32, if_neg n10]
  refine O_es (e_cf Try.call51 rfl (fun wd hwd => (core_Drop _ cb qb (Conf.mk 1 4 0 1 100) 1 ⟨3, 7⟩ (inc 0) R v ring k h 0 [] hq (by decide))) (by repeat (first | exact Pick.nil | exact Take.here | apply Pick.cons | apply Take.there))) ?_
  rintro _ _ ⟨_, ⟨R', v', ring', k', hd', hq', rfl, rfl⟩, rfl⟩
  refine O_nil ?_
  refine W_seq ?_
  refine W_reg rfl ?_
  refine O_qs (q_move rfl) ?_
  have n30 : ¬ (3 : Int) = 0 := by decide
  rw [if_neg n30] at hq'
  simp only [n30, if_false, List.nil_append] at hq' ⊢
  refine O_qs (q_cf Try.call13 rfl (fun wd hwd => (core_Queue _ cb qb (Conf.mk 1 4 0 1 100) 1 ⟨0, 0⟩ (inc 0))) (by repeat (first | exact Pick.nil | exact Take.here | apply Pick.cons | apply Take.there))) ?_
  refine O_qs (q_cf Try.call52 rfl (fun wd hwd => (queue_Head _ qb R' v' ring' k' hd' 1 [⟨3, 0, 7⟩] hq' (by decide))) (by repeat (first | exact Pick.nil | exact Take.here | apply Pick.cons | apply Take.there))) ?_
  refine O_qs (q_move rfl) ?_
  refine O_qs (q_extract rfl rfl) ?_
  refine O_qs (q_extract rfl rfl) ?_
  refine O_es (e_alloc (cs := #[.int .i64 0, .int .i64 0, .int .i64 0]) Try.zeroValue62 rfl) ?_
  rintro _ _ ⟨b7, rfl, rfl⟩
  refine O_en (e_storeN (vs := [_, _, _]) Try.sizeOf62 rfl rfl rfl (by repeat (first | exact Upd.here | apply Upd.there)) rfl (by simp only [setAll, List.setIfInBounds_toArray, List.set_cons_succ, List.set_cons_zero, Nat.reduceAdd, Nat.zero_add] <;> rfl)) ?_
  rintro _ _ ⟨rfl, rfl⟩
  refine O_qs (q_assign rfl) ?_
  refine O_nil ?_
  refine W_seq ?_
  refine W_reg rfl ?_
  refine O_qs (q_build rfl (bld_23 (cs := [_, _, _, _, _]) rfl)) ?_
  refine O_qs (q_cf Try.call8 rfl (fun wd hwd => (core_New_bad _ (Conf.mk 0 0 0 0 0) e0)) (by repeat (first | exact Pick.nil | exact Take.here | apply Pick.cons | apply Take.there))) ?_
  refine O_qs (q_eqnil Try.runUnderlying26 rfl rfl) ?_
  refine O_qs (q_move rfl) ?_
  refine O_qs (QY.cond0 rfl rfl rfl (fun H => q_move rfl)) ?_
  refine O_qs (QY.cond0 rfl rfl rfl (fun H => q_cf Try.call53 (ev_cons (gvh rfl H) ev_nil) (fun wd hwd => (core_Epoch _ cb qb (Conf.mk 1 4 0 1 100) 1 ⟨0, 0⟩ (inc 0))) (by repeat (first | exact Pick.nil | exact Take.here | apply Pick.cons | apply Take.there)))) ?_
  refine O_qs (QY.cond0 rfl rfl rfl (fun H => q_eql (gvh rfl H) rfl)) ?_
  refine O_qs (q_and rfl rfl rfl) ?_
  refine O_qs (q_move rfl) ?_
  refine O_qs (QY.cond0 rfl rfl rfl (fun H => q_move rfl)) ?_
  refine O_qs (q_and rfl rfl rfl) ?_
  refine O_qs (q_move rfl) ?_
  refine O_qs (QY.cond0 rfl rfl rfl (fun H => q_move rfl)) ?_
  refine O_qs (QY.cond0 rfl rfl rfl (fun H => q_not (gvh rfl H))) ?_
  refine O_qs (q_and rfl rfl rfl) ?_
  refine O_qs (q_move rfl) ?_
  refine O_qs (QY.cond0 rfl rfl rfl (fun H => q_move rfl)) ?_
  refine O_qs (QY.cond0 rfl rfl rfl (fun H => q_cf Try.call16 (ev_cons (gvh rfl H) ev_nil) (fun wd hwd => (core_Rolls _ cb qb (Conf.mk 1 4 0 1 100) 1 ⟨0, 0⟩ (inc 0))) (by repeat (first | exact Pick.nil | exact Take.here | apply Pick.cons | apply Take.there)))) ?_
  refine O_qs (QY.cond0 rfl rfl rfl (fun H => q_eql (gvh rfl H) rfl)) ?_
  refine O_qs (q_and rfl rfl rfl) ?_
  refine O_qs (q_move rfl) ?_
  refine O_qs (QY.cond0 rfl rfl rfl (fun H => q_move rfl)) ?_
  refine O_qs (QY.cond0 rfl rfl rfl (fun H => q_eql (gvh rfl H) rfl)) ?_
  refine O_qs (q_and rfl rfl rfl) ?_
  refine O_qs (q_move rfl) ?_
  refine O_qs (QY.cond0 rfl rfl rfl (fun H => q_move rfl)) ?_
  refine O_qs (QY.cond0 rfl rfl rfl (fun H => q_eql (gvh rfl H) rfl)) ?_
  refine O_qs (q_and rfl rfl rfl) ?_
  refine O_qs (q_move rfl) ?_
  refine O_qs (QY.cond0 rfl rfl rfl (fun H => q_move rfl)) ?_
  refine O_qs (q_and rfl rfl rfl) ?_
  refine O_qs (q_move rfl) ?_
  refine O_qs (QY.cond0 rfl rfl rfl (fun H => q_loadN (vs := [_, _, _]) Try.isAgg62 Try.sizeOf62 rfl (rd_range (by repeat (first | exact List.Mem.head _ | apply List.Mem.tail)) rfl))) ?_
  refine O_qs (QY.cond0 rfl rfl rfl (fun H => q_build rfl (bld_62 (cs := [_, _, _]) rfl))) ?_
  refine O_qs (QY.cond0 rfl rfl rfl (fun H => q_bin eql_62 (gvh rfl H) (gvh rfl H))) ?_
  refine O_qs (q_and rfl rfl rfl) ?_
  refine O_qs (q_move rfl) ?_
  refine O_qs (QY.cond0 rfl rfl rfl (fun H => q_move rfl)) ?_
  refine O_qs (QY.cond0 rfl rfl rfl (fun H => q_build rfl (bld_43 (cs := [_, _]) rfl))) ?_
  refine O_qs (QY.cond0 rfl rfl rfl (fun H => q_cf Try.call54 (ev_cons (gvh rfl H) (ev_cons (gvh rfl H) ev_nil)) (fun wd hwd => (core_To _ cb qb (Conf.mk 1 4 0 1 100) 1 ⟨0, 0⟩ (inc 0) ⟨2, 5⟩)) (by repeat (first | exact Pick.nil | exact Take.here | apply Pick.cons | apply Take.there)))) ?_
  refine O_qs (QY.cond0 rfl rfl rfl (fun H => q_cf Try.call55 rfl (fun wd hwd => (link_To _ 2 1)) (by repeat (first | exact Pick.nil | exact Take.here | apply Pick.cons | apply Take.there)))) ?_
  refine O_qs (QY.cond0 rfl rfl rfl (fun H => q_build (ev_cons (gvh rfl H) (ev_cons rfl ev_nil)) (bld_45 (cs := [_, _, _]) rfl))) ?_
  refine O_qs (QY.cond0 rfl rfl rfl (fun H => q_bin eql_45 (gvh rfl H) (gvh rfl H))) ?_
  refine O_qs (q_and rfl rfl rfl) ?_
  refine O_qs (q_assign rfl) ?_
  refine O_nil ?_
  refine W_ret ?_
  refine res1 (c0 := []) rfl rfl (by repeat (first | exact Pick.nil | exact Take.here | apply Pick.cons | apply Take.there)) rfl ?_
  exact ⟨rfl, rfl⟩

structure Deed where
  kind : Int
  w : Int
  who : Who
  v : Val
def Deed.l (d : Deed) : List Value := [.int .i64 d.kind, .int .u64 d.w, .int .i64 d.who.slot, .int .i64 d.who.id, .int .u64 d.v.word, .int .i64 d.v.id, .bool d.v.stale]
@[reducible] def Deed.v' (d : Deed) : Value := .agg #[.int .i64 d.kind, .int .u64 d.w, .int .i64 d.who.slot, .int .i64 d.who.id, .int .u64 d.v.word, .int .i64 d.v.id, .bool d.v.stale]

/-- Both sides of the law. -/
structure Stt where
  e : Int
  h : Who
  r : Int
  v : Value
  hd : Nat
  L : List SL.Entry
  R : Atom
  ring : List SL.Entry
  k : Nat
  v3 : Value
  n3 : Int
  R3 : Atom
  A : Atom
  l : List (Plc × Int)
  cnt : Count
  v2 : Value
  R2 : Atom
  l2 : List (Plc × Int)
  idv : Int

abbrev Stt.ctx (d : Stt) (cb qb ub mb ib : Nat) (x : Conf) : Ctx :=
  [coreA cb qb x d.e d.h d.r, qraw qb d.v d.hd d.L.length, d.R, uraw ub x d.e d.v3 d.n3 d.h.slot d.r, d.R3, d.A, oraw mb d.v2, d.R2, [(ib, .cells #[.int .i64 d.idv] 3 (0, 0))]]

def refE (x : SL.Entry) : SL.Entry := ⟨x.slot, 0, 0⟩

structure Stt.Ok (d : Stt) (wb T : Nat) : Prop where
  q : QS d.R d.v d.ring d.k d.hd T d.L
  p : PlainIs d.A wb d.l d.cnt
  o : Row layO 165 d.R2 d.v2 d.l2
  f : Row layE 63 d.R3 d.v3 (d.L.map refE)
  z : d.h.slot = 0 → d.h.id = 0
  i : d.h.slot ≠ 0 → d.idv = d.h.id ∧ 0 < d.h.slot
  rt : ∀ x, x ∈ d.L → x.retired = 0
  m : mem d.l2 epochP = mem d.l epochP
  ll : d.l2.length ≤ T

def Deed.looks (d : Deed) : Bool := decide (1 ≤ d.kind) && decide (d.kind ≤ 4)

theorem law13_does (B : World) (cb qb ub wb mb ib : Nat) (x : Conf) (d : Stt) (T : Nat) (hd : d.Ok wb T) (hT : T < 1000000) (a : Deed) (hw : 0 ≤ a.w ∧ a.w < 18446744073709551616) (hv : 0 ≤ a.v.word ∧ a.v.word < 18446744073709551616) :
    Ctr Try.prog 11 [ptr cb, ptr ub, ptr wb, ptr mb, ptr ib, a.v'] B (d.ctx cb qb ub mb ib x)
      (fun u c => ∃ d' : Stt, d'.Ok wb (T + 1) ∧ d'.cnt.loads = (if a.looks then inc d.cnt.loads else d.cnt.loads) ∧ u = .bool true ∧ c = d'.ctx cb qb ub mb ib x) := by
  obtain ⟨e, h, r, v, hd_, L, R, ring, k, v3, n3, R3, A, l, cnt, v2, R2, l2, idv⟩ := d
  obtain ⟨q, p, o, f, z, i, rt, m, ll⟩ := hd
  dsimp only at q p o f z i rt m ll
  have hbnd := q.bnd
  have qm := q.mono (Nat.le_add_right T 1)
  have hm := p.wds.mem epochP
  have hkeys := p.keys
  have ll1 : l2.length ≤ T + 1 := by omega
  have ll1 : l2.length ≤ T + 1 := by omega
  refine Ctr.intro (n := 208) Try.func11 rfl Try.ntmps11 (Nat.le_of_ble_eq_true rfl) ?_
  refine W_seq ?_
  refine W_reg rfl ?_
  refine O_es (e_box (cs := #[_, _, _, _, _, _, _]) rfl rfl) ?_
  rintro _ _ ⟨b11, rfl, rfl⟩
  refine O_qs (q_assign rfl) ?_
  refine O_nil ?_
  refine W_seq ?_
  refine W_seq ?_
  refine W_reg rfl ?_
  refine O_qs (q_fa fa_47_0 rfl) ?_
  refine O_qs (q_load Try.isAgg3 rfl (rd_chunk (by repeat (first | exact List.Mem.head _ | apply List.Mem.tail)) rfl)) ?_
  refine O_nil ?_
  refine W_block ?_
  refine W_seq ?_
  refine W_seq ?_
  refine W_reg rfl ?_
  refine O_qs (q_eql rfl rfl) ?_
  refine O_qs (q_assign rfl) ?_
  refine O_nil ?_
  refine W_cut (fun (b : Bool) => [(20, .bool b), (19, .int .i64 a.kind), (11, ptr b11), (0, ptr cb), (1, ptr ub), (2, ptr wb), (3, ptr mb), (4, ptr ib)]) (fun _ => [(b11, .cells #[.int .i64 a.kind, .int .u64 a.w, .int .i64 a.who.slot, .int .i64 a.who.id, .int .u64 a.v.word, .int .i64 a.v.id, .bool a.v.stale] 47 (0, 0))] :: [coreA cb qb x (e) (h) (r), qraw qb (v) (hd_) (L).length, R, uraw ub x (e) (v3) (n3) ((h).slot) (r), R3, A, oraw mb (v2), R2, [(ib, .cells #[.int .i64 (idv)] 3 (0, 0))]]) (fun b => b = (decide (a.kind = 1) || decide (a.kind = 2))) ?_ ?_
  · refine W_cond rfl ?_ ?_
    · intro hc
      refine W_skip ?_
      refine ⟨(decide (a.kind = 1)), _, ?_, (by repeat (first | exact Sub.nil | refine Sub.cons rfl ?_)), (by repeat (first | exact Pick.nil | exact Take.here | apply Pick.cons | apply Take.there))⟩
      rw [hc]; rfl
    · intro hc
      refine W_reg rfl ?_
      refine O_qs (q_eql rfl rfl) ?_
      refine O_qs (q_assign rfl) ?_
      refine O_nil ?_
      refine ⟨(decide (a.kind = 2)), _, ?_, (by repeat (first | exact Sub.nil | refine Sub.cons rfl ?_)), (by repeat (first | exact Pick.nil | exact Take.here | apply Pick.cons | apply Take.there))⟩
      rw [hc]; rfl
  rintro bk12 hbk12
  refine W_cond rfl ?_ ?_
  · intro hc
    subst hbk12
    have hk : a.kind = 1 ∨ a.kind = 2 := by simpa using hc
    have hlk : a.looks = true := by unfold Deed.looks; simp; omega
    refine W_seq ?_
    refine W_reg rfl ?_
    refine O_qs (q_move rfl) ?_
    refine O_qs (q_move rfl) ?_
    refine O_qs (q_mkI mki_35 rfl) ?_
    refine O_es (e_cf Try.call48 rfl (fun wd hwd => (core_Check _ cb qb x e h r A wb cnt l p)) (by repeat (first | exact Pick.nil | exact Take.here | apply Pick.cons | apply Take.there))) ?_
    rintro _ _ ⟨_, ⟨A', hA', rfl, rfl⟩, rfl⟩
    refine O_nil ?_
    refine W_seq ?_
    refine W_reg rfl ?_
    refine O_qs (q_move rfl) ?_
    refine O_qs (q_move rfl) ?_
    refine O_es (e_cf Try.call59 rfl (fun wd hwd => (ref13_Check _ ub mb x e n3 h.slot r v3 R2 v2 l2 o (by omega) (by rw [m]; exact hm))) (by repeat (first | exact Pick.nil | exact Take.here | apply Pick.cons | apply Take.there))) ?_
    rintro _ _ ⟨_, ⟨rfl, rfl⟩, rfl⟩
    refine O_nil ?_
    refine W_seq ?_
    refine W_draw [[], [0], [], [2], [2, 3], [2, 3, 4], [0, 1, 2, 3, 4, 5], [0, 1, 2, 3, 4, 5, 6]] rfl rfl rfl ?_
    refine V.qs 0 rfl rfl (q_move rfl) ?_
    refine V.qs 2 rfl rfl (q_move rfl) ?_
    refine V.qs 3 rfl rfl (q_nil rfl) ?_
    refine V.qs 4 rfl rfl (q_fa fa_34_1 rfl) ?_
    refine V.qs 5 rfl rfl (q_load Try.isAgg3 rfl (rd_chunk (by repeat (first | exact List.Mem.head _ | apply List.Mem.tail)) rfl)) ?_
    rw [m]
    refine V.qs 1 rfl rfl (q_cf Try.call53 rfl (fun wd hwd => (core_Epoch _ cb qb x (epw (mem l epochP)) h r)) (by repeat (first | exact Pick.nil | exact Take.here | apply Pick.cons | apply Take.there))) ?_
    refine V.qs 6 rfl rfl (q_eql rfl rfl) ?_
    refine V.qs 7 rfl rfl (q_assign rfl) ?_
    refine V.fin rfl ?_
    refine W_ret ?_
    refine res1 (c0 := [coreA cb qb x (epw (mem l epochP)) (h) (r), qraw qb (v) (hd_) (L).length, R, uraw ub x (epw (mem l epochP)) (v3) (n3) ((h).slot) (r), R3, A', oraw mb (v2), R2, [(ib, .cells #[.int .i64 (idv)] 3 (0, 0))]]) rfl rfl (by repeat (first | exact Pick.nil | exact Take.here | apply Pick.cons | apply Take.there)) rfl ?_
    refine ⟨⟨epw (mem l epochP), h, r, v, hd_, L, R, ring, k, v3, n3, R3, A', l, { cnt with loads := inc cnt.loads }, v2, R2, l2, idv⟩, ⟨qm, hA', o, f, z, i, rt, m, ll1⟩, (by rw [hlk]; rfl), by simp, rfl⟩
  intro hck12
  subst hbk12
  refine W_seq ?_
  refine W_seq ?_
  refine W_reg rfl ?_
  refine O_qs (q_eql rfl rfl) ?_
  refine O_qs (q_assign rfl) ?_
  refine O_nil ?_
  refine W_cut (fun (b : Bool) => [(37, .bool b), (19, .int .i64 a.kind), (11, ptr b11), (0, ptr cb), (1, ptr ub), (2, ptr wb), (3, ptr mb), (4, ptr ib)]) (fun _ => [(b11, .cells #[.int .i64 a.kind, .int .u64 a.w, .int .i64 a.who.slot, .int .i64 a.who.id, .int .u64 a.v.word, .int .i64 a.v.id, .bool a.v.stale] 47 (0, 0))] :: [coreA cb qb x (e) (h) (r), qraw qb (v) (hd_) (L).length, R, uraw ub x (e) (v3) (n3) ((h).slot) (r), R3, A, oraw mb (v2), R2, [(ib, .cells #[.int .i64 (idv)] 3 (0, 0))]]) (fun b => b = (decide (a.kind = 3) || decide (a.kind = 4))) ?_ ?_
  · refine W_cond rfl ?_ ?_
    · intro hc
      refine W_skip ?_
      refine ⟨(decide (a.kind = 3)), _, ?_, (by repeat (first | exact Sub.nil | refine Sub.cons rfl ?_)), (by repeat (first | exact Pick.nil | exact Take.here | apply Pick.cons | apply Take.there))⟩
      rw [hc]; rfl
    · intro hc
      refine W_reg rfl ?_
      refine O_qs (q_eql rfl rfl) ?_
      refine O_qs (q_assign rfl) ?_
      refine O_nil ?_
      refine ⟨(decide (a.kind = 4)), _, ?_, (by repeat (first | exact Sub.nil | refine Sub.cons rfl ?_)), (by repeat (first | exact Pick.nil | exact Take.here | apply Pick.cons | apply Take.there))⟩
      rw [hc]; rfl
  rintro bk34 hbk34
  refine W_cond rfl ?_ ?_
  · intro hc
    subst hbk34
    have hk : a.kind = 3 ∨ a.kind = 4 := by simpa using hc
    have hlk : a.looks = true := by unfold Deed.looks; simp; omega
    refine W_seq ?_
    refine W_reg rfl ?_
    refine O_qs (q_move rfl) ?_
    refine O_qs (q_move rfl) ?_
    refine O_qs (q_mkI mki_35 rfl) ?_
    refine O_es (e_cf Try.call49 rfl (fun wd hwd => (core_Valid _ cb qb x e h r A wb cnt l p)) (by repeat (first | exact Pick.nil | exact Take.here | apply Pick.cons | apply Take.there))) ?_
    rintro _ _ ⟨_, ⟨A', hA', rfl, rfl⟩, rfl⟩
    refine O_qs (q_move rfl) ?_
    refine O_qs (q_move rfl) ?_
    refine O_es (e_cf Try.call60 rfl (fun wd hwd => (ref13_Valid _ ub mb x e n3 h.slot r v3 R2 v2 l2 o (by omega))) (by repeat (first | exact Pick.nil | exact Take.here | apply Pick.cons | apply Take.there))) ?_
    rintro _ _ ⟨_, ⟨rfl, rfl⟩, rfl⟩
    refine O_qs (q_eqb Try.runUnderlying4 rfl rfl) ?_
    refine O_qs (q_assign rfl) ?_
    refine O_nil ?_
    refine W_ret ?_
    rw [m]
    refine res1 (c0 := [coreA cb qb x (e) (h) (if mem l epochP = IntKind.u64.wrap e then r else inc r), qraw qb (v) (hd_) (L).length, R, uraw ub x (e) (v3) (n3) ((h).slot) (if mem l epochP = IntKind.u64.wrap e then r else inc r), R3, A', oraw mb (v2), R2, [(ib, .cells #[.int .i64 (idv)] 3 (0, 0))]]) rfl rfl (by repeat (first | exact Pick.nil | exact Take.here | apply Pick.cons | apply Take.there)) rfl ?_
    refine ⟨⟨e, h, if mem l epochP = IntKind.u64.wrap e then r else inc r, v, hd_, L, R, ring, k, v3, n3, R3, A', l, { cnt with loads := inc cnt.loads }, v2, R2, l2, idv⟩, ⟨qm, hA', o, f, z, i, rt, m, ll1⟩, (by rw [hlk]; rfl), by simp, rfl⟩
  intro hck34
  subst hbk34
  refine W_seq ?_
  refine W_reg rfl ?_
  refine O_qs (q_eql rfl rfl) ?_
  refine O_qs (q_assign rfl) ?_
  refine O_nil ?_
  refine W_cond rfl ?_ ?_
  · intro hc
    have hk : a.kind = 5 := by simpa using hc
    have hlk : a.looks = false := by unfold Deed.looks; simp; omega
    refine W_seq ?_
    refine W_draw [[], [], [1], [], [3], [3, 4], [0, 1, 2, 3, 4, 5]] rfl rfl rfl ?_
    refine V.qs 0 rfl rfl (q_move rfl) ?_
    refine V.qs 3 rfl rfl (q_fa fa_47_1 rfl) ?_
    refine V.qs 4 rfl rfl (q_load Try.isAgg41 rfl (rd_chunk (by repeat (first | exact List.Mem.head _ | apply List.Mem.tail)) rfl)) ?_
    refine V.qs 5 rfl rfl (q_build rfl (bld_45 (cs := [_, _, _]) rfl)) ?_
    refine V.qs 1 rfl rfl (q_cf Try.call36 rfl (fun wd hwd => (place_Epoch _)) (by repeat (first | exact Pick.nil | exact Take.here | apply Pick.cons | apply Take.there))) ?_
    refine V.qs 2 rfl rfl (q_build rfl (bld_91 (cs := [_, _, _, _]) rfl)) ?_
    refine V.e1s 6 [] rfl rfl rfl (e_cf Try.call37 rfl (fun wd hwd => (world_Store _ A wb cnt l ⟨epochP, 0⟩ ⟨a.w, 0, false⟩ hw p)) (by repeat (first | exact Pick.nil | exact Take.here | apply Pick.cons | apply Take.there))) ?_
    rintro _ _ ⟨_, ⟨A', hA', rfl, rfl⟩, rfl⟩
    refine ⟨st_nil, ?_⟩
    refine V.fin rfl ?_
    refine W_draw [[], [], [], [2], [0, 1, 2, 3]] rfl rfl rfl ?_
    refine V.qs 0 rfl rfl (q_move rfl) ?_
    refine V.qs 2 rfl rfl (q_fa fa_47_1 rfl) ?_
    refine V.qs 3 rfl rfl (q_load Try.isAgg41 rfl (rd_chunk (by repeat (first | exact List.Mem.head _ | apply List.Mem.tail)) rfl)) ?_
    refine V.qs 1 rfl rfl (q_cf Try.call62 rfl (fun wd hwd => (ref13_Epoch _)) (by repeat (first | exact Pick.nil | exact Take.here | apply Pick.cons | apply Take.there))) ?_
    refine V.e1s 4 [] rfl rfl rfl (e_cf Try.call61 rfl (fun wd hwd => (ref04_Set _ mb R2 v2 l2 epochP a.w o (by omega))) (by repeat (first | exact Pick.nil | exact Take.here | apply Pick.cons | apply Take.there))) ?_
    rintro _ _ ⟨_, ⟨R2', v2', o', rfl, rfl⟩, rfl⟩
    refine ⟨st_nil, ?_⟩
    refine V.fin rfl ?_
    refine W_seq ?_
    refine W_reg rfl ?_
    refine O_qs (q_assign rfl) ?_
    refine O_nil ?_
    refine W_ret ?_
    refine res1 (c0 := [coreA cb qb x (e) (h) (r), qraw qb (v) (hd_) (L).length, R, uraw ub x (e) (v3) (n3) ((h).slot) (r), R3, A', oraw mb (v2'), R2', [(ib, .cells #[.int .i64 (idv)] 3 (0, 0))]]) rfl rfl (by repeat (first | exact Pick.nil | exact Take.here | apply Pick.cons | apply Take.there)) rfl ?_
    refine ⟨⟨e, h, r, v, hd_, L, R, ring, k, v3, n3, R3, A', (putw l epochP a.w), { cnt with stores := inc cnt.stores }, v2', R2', (mput l2 epochP a.w), idv⟩, ⟨qm, hA', o', f, z, i, rt, ?_, ?_⟩, (by rw [hlk]; rfl), rfl, rfl⟩
    · show mem (mput l2 epochP a.w) epochP = mem (putw l epochP a.w) epochP
      rw [mem_mput, mem_put l hkeys]
    · have := mput_length l2 epochP a.w
      show (mput l2 epochP a.w).length ≤ T + 1
      omega
  intro hck5
  refine W_seq ?_
  refine W_reg rfl ?_
  refine O_qs (q_eql rfl rfl) ?_
  refine O_qs (q_assign rfl) ?_
  refine O_nil ?_
  refine W_cond rfl ?_ ?_
  · intro hc
    have hk : a.kind = 6 := by simpa using hc
    have hlk : a.looks = false := by unfold Deed.looks; simp; omega
    refine W_seq ?_
    refine W_reg rfl ?_
    refine O_qs (q_move rfl) ?_
    refine O_qs (q_cf Try.call36 rfl (fun wd hwd => (place_Epoch _)) (by repeat (first | exact Pick.nil | exact Take.here | apply Pick.cons | apply Take.there))) ?_
    refine O_qs (q_build rfl (bld_91 (cs := [_, _, _, _]) rfl)) ?_
    refine O_es (e_cf Try.call35 rfl (fun wd hwd => (world_Add _ A wb cnt l ⟨epochP, 0⟩ 1 p)) (by repeat (first | exact Pick.nil | exact Take.here | apply Pick.cons | apply Take.there))) ?_
    rintro _ _ ⟨_, ⟨A', hA', rfl, rfl⟩, rfl⟩
    refine O_nil ?_
    refine W_reg rfl ?_
    refine O_qs (q_move rfl) ?_
    refine O_qs (q_cf Try.call62 rfl (fun wd hwd => (ref13_Epoch _)) (by repeat (first | exact Pick.nil | exact Take.here | apply Pick.cons | apply Take.there))) ?_
    refine O_qs (q_move rfl) ?_
    refine O_qs (q_cf Try.call62 rfl (fun wd hwd => (ref13_Epoch _)) (by repeat (first | exact Pick.nil | exact Take.here | apply Pick.cons | apply Take.there))) ?_
    refine O_qs (q_cf Try.call63 rfl (fun wd hwd => (ref04_Get _ mb R2 v2 l2 epochP o (by omega))) (by repeat (first | exact Pick.nil | exact Take.here | apply Pick.cons | apply Take.there))) ?_
    refine O_qs (q_add (c := IntKind.u64.wrap (mem l2 epochP + 1)) rfl rfl rfl) ?_
    refine O_es (e_cf Try.call61 rfl (fun wd hwd => (ref04_Set _ mb R2 v2 l2 epochP (IntKind.u64.wrap (mem l2 epochP + 1)) o (by omega))) (by repeat (first | exact Pick.nil | exact Take.here | apply Pick.cons | apply Take.there))) ?_
    rintro _ _ ⟨_, ⟨R2', v2', o', rfl, rfl⟩, rfl⟩
    refine O_nil ?_
    refine W_seq ?_
    refine W_reg rfl ?_
    refine O_qs (q_assign rfl) ?_
    refine O_nil ?_
    refine W_ret ?_
    refine res1 (c0 := [coreA cb qb x (e) (h) (r), qraw qb (v) (hd_) (L).length, R, uraw ub x (e) (v3) (n3) ((h).slot) (r), R3, A', oraw mb (v2'), R2', [(ib, .cells #[.int .i64 (idv)] 3 (0, 0))]]) rfl rfl (by repeat (first | exact Pick.nil | exact Take.here | apply Pick.cons | apply Take.there)) rfl ?_
    refine ⟨⟨e, h, r, v, hd_, L, R, ring, k, v3, n3, R3, A', (putw l epochP (IntKind.u64.wrap (mem l epochP + 1))), { cnt with adds := inc cnt.adds }, v2', R2', (mput l2 epochP (IntKind.u64.wrap (mem l2 epochP + 1))), idv⟩, ⟨qm, hA', o', f, z, i, rt, ?_, ?_⟩, (by rw [hlk]; rfl), rfl, rfl⟩
    · show mem (mput l2 epochP (IntKind.u64.wrap (mem l2 epochP + 1))) epochP = mem (putw l epochP (IntKind.u64.wrap (mem l epochP + 1))) epochP
      rw [mem_mput, mem_put l hkeys, m]
    · have := mput_length l2 epochP (IntKind.u64.wrap (mem l2 epochP + 1))
      show (mput l2 epochP (IntKind.u64.wrap (mem l2 epochP + 1))).length ≤ T + 1
      omega
  intro hck6
  refine W_seq ?_
  refine W_reg rfl ?_
  refine O_qs (q_eql rfl rfl) ?_
  refine O_qs (q_assign rfl) ?_
  refine O_nil ?_
  refine W_cond rfl ?_ ?_
  · intro hc
    have hk : a.kind = 7 := by simpa using hc
    have hlk : a.looks = false := by unfold Deed.looks; simp; omega
    refine W_seq ?_
    refine W_draw [[], [], [1], [0, 1, 2], [], [], [5], [5, 6], [0, 1, 2, 3, 4, 5, 6, 7], [], [9], [9, 10], [0, 1, 2, 3, 4, 5, 6, 7, 8, 9, 10, 11], [0, 1, 2, 3, 4, 5, 6, 7, 8, 9, 10, 11, 12], [0, 1, 2, 3, 4, 5, 6, 7, 8, 9, 10, 11, 12, 13]] rfl rfl rfl ?_
    refine V.qs 0 rfl rfl (q_move rfl) ?_
    refine V.qs 1 rfl rfl (q_fa fa_47_2 rfl) ?_
    refine V.qs 2 rfl rfl (q_loadN (vs := [_, _]) Try.isAgg43 Try.sizeOf43 rfl (rd_range (by repeat (first | exact List.Mem.head _ | apply List.Mem.tail)) rfl)) ?_
    refine V.qs 4 rfl rfl (q_move rfl) ?_
    refine V.qs 5 rfl rfl (q_fa fa_47_2 rfl) ?_
    refine V.qs 6 rfl rfl (q_fa fa_43_0 rfl) ?_
    refine V.qs 7 rfl rfl (q_load Try.isAgg3 rfl (rd_chunk (by repeat (first | exact List.Mem.head _ | apply List.Mem.tail)) rfl)) ?_
    refine V.qs 9 rfl rfl (q_fa fa_47_2 rfl) ?_
    refine V.qs 10 rfl rfl (q_fa fa_43_1 rfl) ?_
    refine V.qs 11 rfl rfl (q_load Try.isAgg3 rfl (rd_chunk (by repeat (first | exact List.Mem.head _ | apply List.Mem.tail)) rfl)) ?_
    refine V.qs 3 rfl rfl (q_cf Try.call54 rfl (fun wd hwd => (core_To _ cb qb x e h r a.who)) (by repeat (first | exact Pick.nil | exact Take.here | apply Pick.cons | apply Take.there))) ?_
    refine V.qs 8 rfl rfl (q_cf Try.call64 rfl (fun wd hwd => (ref13_To _ ub x e n3 h.slot r v3 a.who.slot)) (by repeat (first | exact Pick.nil | exact Take.here | apply Pick.cons | apply Take.there))) ?_
    refine V.qs 12 rfl rfl (q_build rfl (bld_45 (cs := [_, _, _]) rfl)) ?_
    refine V.qs 13 rfl rfl (q_bin eql_45 rfl rfl) ?_
    refine V.qs 14 rfl rfl (q_assign rfl) ?_
    refine V.fin rfl ?_
    refine W_ret ?_
    refine res1 (c0 := [coreA cb qb x (e) (h) (r), qraw qb (v) (hd_) (L).length, R, uraw ub x (e) (v3) (n3) ((h).slot) (r), R3, A, oraw mb (v2), R2, [(ib, .cells #[.int .i64 (idv)] 3 (0, 0))]]) rfl rfl (by repeat (first | exact Pick.nil | exact Take.here | apply Pick.cons | apply Take.there)) rfl ?_
    refine ⟨⟨e, h, r, v, hd_, L, R, ring, k, v3, n3, R3, A, l, cnt, v2, R2, l2, idv⟩, ⟨qm, p, o, f, z, i, rt, m, ll1⟩, (by rw [hlk]; rfl), by simp, rfl⟩
  intro hck7
  refine W_seq ?_
  refine W_reg rfl ?_
  refine O_qs (q_eql rfl rfl) ?_
  refine O_qs (q_assign rfl) ?_
  refine O_nil ?_
  refine W_cond rfl ?_ ?_
  · intro hc
    have hk : a.kind = 8 := by simpa using hc
    have hlk : a.looks = false := by unfold Deed.looks; simp; omega
    refine W_seq ?_
    refine W_draw [[], [], [1], [1, 2], [], [4], [4, 5], [0, 1, 2, 3, 4, 5, 6], [], [8], [8, 9], [0, 1, 2, 3, 4, 5, 6, 7, 8, 9, 10], [], [0, 1, 2, 3, 4, 5, 6, 7, 8, 9, 10, 11, 12]] rfl rfl rfl ?_
    refine V.qs 0 rfl rfl (q_move rfl) ?_
    refine V.qs 1 rfl rfl (q_fa fa_47_3 rfl) ?_
    refine V.qs 2 rfl rfl (q_fa fa_45_0 rfl) ?_
    refine V.qs 3 rfl rfl (q_load Try.isAgg41 rfl (rd_chunk (by repeat (first | exact List.Mem.head _ | apply List.Mem.tail)) rfl)) ?_
    refine V.qs 4 rfl rfl (q_fa fa_47_2 rfl) ?_
    refine V.qs 5 rfl rfl (q_fa fa_43_0 rfl) ?_
    refine V.qs 6 rfl rfl (q_load Try.isAgg3 rfl (rd_chunk (by repeat (first | exact List.Mem.head _ | apply List.Mem.tail)) rfl)) ?_
    refine V.qs 8 rfl rfl (q_fa fa_47_2 rfl) ?_
    refine V.qs 9 rfl rfl (q_fa fa_43_1 rfl) ?_
    refine V.qs 10 rfl rfl (q_load Try.isAgg3 rfl (rd_chunk (by repeat (first | exact List.Mem.head _ | apply List.Mem.tail)) rfl)) ?_
    refine V.qs 7 rfl rfl (q_cf Try.call65 rfl (fun wd hwd => (ref13_Mark _ ub x e n3 h.slot r v3 a.v.word a.who.slot hv)) (by repeat (first | exact Pick.nil | exact Take.here | apply Pick.cons | apply Take.there))) ?_
    refine V.qs 11 rfl rfl (q_build rfl (bld_45 (cs := [_, _, _]) rfl)) ?_
    refine V.e1s 12 [11, 7, 10, 9, 8, 6, 5, 4, 3, 2, 1, 0] rfl rfl rfl (e_alloc (cs := #[.int .u64 0, .int .i64 0, .bool false]) Try.zeroValue45 rfl) ?_
    rintro _ _ ⟨b13, rfl, rfl⟩
    refine ⟨st rfl rfl (q_build rfl (bld_45 (cs := [_, _, _]) rfl)) (st rfl rfl (q_cf Try.call65 rfl (fun wd hwd => (ref13_Mark _ ub x e n3 h.slot r v3 a.v.word a.who.slot hv)) (by repeat (first | exact Pick.nil | exact Take.here | apply Pick.cons | apply Take.there))) (st rfl rfl (q_load Try.isAgg3 rfl (rd_chunk (by repeat (first | exact List.Mem.head _ | apply List.Mem.tail)) rfl)) (st rfl rfl (q_fa fa_43_1 rfl) (st rfl rfl (q_fa fa_47_2 rfl) (st rfl rfl (q_load Try.isAgg3 rfl (rd_chunk (by repeat (first | exact List.Mem.head _ | apply List.Mem.tail)) rfl)) (st rfl rfl (q_fa fa_43_0 rfl) (st rfl rfl (q_fa fa_47_2 rfl) (st rfl rfl (q_load Try.isAgg41 rfl (rd_chunk (by repeat (first | exact List.Mem.head _ | apply List.Mem.tail)) rfl)) (st rfl rfl (q_fa fa_45_0 rfl) (st rfl rfl (q_fa fa_47_3 rfl) (st rfl rfl (q_move rfl) (st_nil)))))))))))), ?_⟩
    refine V.e1n 13 [] rfl rfl rfl (e_storeN (vs := [_, _, _]) Try.sizeOf45 rfl rfl rfl (by repeat (first | exact Upd.here | apply Upd.there)) rfl (by simp only [setAll, List.setIfInBounds_toArray, List.set_cons_succ, List.set_cons_zero, Nat.reduceAdd, Nat.zero_add] <;> rfl)) ?_
    rintro _ _ ⟨rfl, rfl⟩
    refine ⟨st_nil, ?_⟩
    refine V.fin rfl ?_
    refine W_seq ?_
    refine W_seq ?_
    refine W_reg rfl ?_
    refine O_qs (q_fa fa_47_3 rfl) ?_
    refine O_qs (q_fa fa_45_0 rfl) ?_
    refine O_qs (q_load Try.isAgg41 rfl (rd_chunk (by repeat (first | exact List.Mem.head _ | apply List.Mem.tail)) rfl)) ?_
    refine O_qs (q_cf Try.call66 rfl (fun wd hwd => (ref02_Of _ a.v.word hv)) (by repeat (first | exact Pick.nil | exact Take.here | apply Pick.cons | apply Take.there))) ?_
    refine O_qs (q_field (fd_128_0 rfl) rfl) ?_
    refine O_nil ?_
    refine W_cond rfl ?_ ?_
    · intro hmk
      refine W_reg rfl ?_
      refine O_qs (q_fa fa_47_3 rfl) ?_
      refine O_qs (q_loadN (vs := [_, _, _]) Try.isAgg45 Try.sizeOf45 rfl (rd_range (by repeat (first | exact List.Mem.head _ | apply List.Mem.tail)) rfl)) ?_
      refine O_en (e_storeN (vs := [_, _, _]) Try.sizeOf45 rfl rfl rfl (by repeat (first | exact Upd.here | apply Upd.there)) rfl (by simp only [setAll, List.setIfInBounds_toArray, List.set_cons_succ, List.set_cons_zero, Nat.reduceAdd, Nat.zero_add] <;> rfl)) ?_
      rintro _ _ ⟨rfl, rfl⟩
      refine O_nil ?_
      refine W_seq ?_
      refine W_draw [[], [], [1], [], [3], [0, 1, 2, 3, 4], [], [0, 1, 2, 3, 4, 5, 6], [0, 1, 2, 3, 4, 5, 6, 7]] rfl rfl rfl ?_
      refine V.qs 0 rfl rfl (q_move rfl) ?_
      refine V.qs 1 rfl rfl (q_fa fa_47_3 rfl) ?_
      refine V.qs 2 rfl rfl (q_loadN (vs := [_, _, _]) Try.isAgg45 Try.sizeOf45 rfl (rd_range (by repeat (first | exact List.Mem.head _ | apply List.Mem.tail)) rfl)) ?_
      refine V.qs 3 rfl rfl (q_fa fa_47_2 rfl) ?_
      refine V.qs 4 rfl rfl (q_loadN (vs := [_, _]) Try.isAgg43 Try.sizeOf43 rfl (rd_range (by repeat (first | exact List.Mem.head _ | apply List.Mem.tail)) rfl)) ?_
      refine V.qs 6 rfl rfl (q_loadN (vs := [_, _, _]) Try.isAgg45 Try.sizeOf45 rfl (rd_range (by repeat (first | exact List.Mem.head _ | apply List.Mem.tail)) rfl)) ?_
      refine V.qs 5 rfl rfl (q_cf Try.call67 rfl (fun wd hwd => (core_Mark _ cb qb x e h r a.v hv a.who)) (by repeat (first | exact Pick.nil | exact Take.here | apply Pick.cons | apply Take.there))) ?_
      refine V.qs 7 rfl rfl (q_bin eql_45 rfl rfl) ?_
      refine V.qs 8 rfl rfl (q_assign rfl) ?_
      refine V.fin rfl ?_
      refine W_ret ?_
      rw [if_pos hmk]
      refine res1 (c0 := [coreA cb qb x (e) (h) (r), qraw qb (v) (hd_) (L).length, R, uraw ub x (e) (v3) (n3) ((h).slot) (r), R3, A, oraw mb (v2), R2, [(ib, .cells #[.int .i64 (idv)] 3 (0, 0))]]) rfl rfl (by repeat (first | exact Pick.nil | exact Take.here | apply Pick.cons | apply Take.there)) rfl ?_
      refine ⟨⟨e, h, r, v, hd_, L, R, ring, k, v3, n3, R3, A, l, cnt, v2, R2, l2, idv⟩, ⟨qm, p, o, f, z, i, rt, m, ll1⟩, (by rw [hlk]; rfl), by simp, rfl⟩
    · intro hmk
      refine W_skip ?_
      refine W_seq ?_
      refine W_draw [[], [], [1], [], [3], [0, 1, 2, 3, 4], [], [0, 1, 2, 3, 4, 5, 6], [0, 1, 2, 3, 4, 5, 6, 7]] rfl rfl rfl ?_
      refine V.qs 0 rfl rfl (q_move rfl) ?_
      refine V.qs 1 rfl rfl (q_fa fa_47_3 rfl) ?_
      refine V.qs 2 rfl rfl (q_loadN (vs := [_, _, _]) Try.isAgg45 Try.sizeOf45 rfl (rd_range (by repeat (first | exact List.Mem.head _ | apply List.Mem.tail)) rfl)) ?_
      refine V.qs 3 rfl rfl (q_fa fa_47_2 rfl) ?_
      refine V.qs 4 rfl rfl (q_loadN (vs := [_, _]) Try.isAgg43 Try.sizeOf43 rfl (rd_range (by repeat (first | exact List.Mem.head _ | apply List.Mem.tail)) rfl)) ?_
      refine V.qs 6 rfl rfl (q_loadN (vs := [_, _, _]) Try.isAgg45 Try.sizeOf45 rfl (rd_range (by repeat (first | exact List.Mem.head _ | apply List.Mem.tail)) rfl)) ?_
      refine V.qs 5 rfl rfl (q_cf Try.call67 rfl (fun wd hwd => (core_Mark _ cb qb x e h r a.v hv a.who)) (by repeat (first | exact Pick.nil | exact Take.here | apply Pick.cons | apply Take.there))) ?_
      refine V.qs 7 rfl rfl (q_bin eql_45 rfl rfl) ?_
      refine V.qs 8 rfl rfl (q_assign rfl) ?_
      refine V.fin rfl ?_
      refine W_ret ?_
      rw [hmk]
      refine res1 (c0 := [coreA cb qb x (e) (h) (r), qraw qb (v) (hd_) (L).length, R, uraw ub x (e) (v3) (n3) ((h).slot) (r), R3, A, oraw mb (v2), R2, [(ib, .cells #[.int .i64 (idv)] 3 (0, 0))]]) rfl rfl (by repeat (first | exact Pick.nil | exact Take.here | apply Pick.cons | apply Take.there)) rfl ?_
      refine ⟨⟨e, h, r, v, hd_, L, R, ring, k, v3, n3, R3, A, l, cnt, v2, R2, l2, idv⟩, ⟨qm, p, o, f, z, i, rt, m, ll1⟩, (by rw [hlk]; rfl), by simp, rfl⟩
  intro hck8
  refine W_seq ?_
  refine W_reg rfl ?_
  refine O_qs (q_eql rfl rfl) ?_
  refine O_qs (q_assign rfl) ?_
  refine O_nil ?_
  refine W_cond rfl ?_ ?_
  · intro hc
    have hk : a.kind = 9 := by simpa using hc
    have hlk : a.looks = false := by unfold Deed.looks; simp; omega
    refine W_seq ?_
    refine W_reg rfl ?_
    refine O_qs (q_move rfl) ?_
    refine O_qs (q_fa fa_47_2 rfl) ?_
    refine O_qs (q_loadN (vs := [_, _]) Try.isAgg43 Try.sizeOf43 rfl (rd_range (by repeat (first | exact List.Mem.head _ | apply List.Mem.tail)) rfl)) ?_
    refine O_es (e_cf Try.call50 rfl (fun wd hwd => (core_Hold _ cb qb x e h r a.who)) (by repeat (first | exact Pick.nil | exact Take.here | apply Pick.cons | apply Take.there))) ?_
    rintro _ _ ⟨_, ⟨rfl, rfl⟩, rfl⟩
    refine O_qs (q_assign rfl) ?_
    refine O_nil ?_
    refine W_seq ?_
    refine W_seq ?_
    refine W_reg rfl ?_
    refine O_qs (q_move rfl) ?_
    refine O_qs (q_nil rfl) ?_
    refine O_qs (q_fa fa_34_3 rfl) ?_
    refine O_qs (q_load Try.isAgg3 rfl (rd_chunk (by repeat (first | exact List.Mem.head _ | apply List.Mem.tail)) rfl)) ?_
    refine O_qs (q_neq rfl rfl) ?_
    refine O_nil ?_
    refine W_cond rfl ?_ ?_
    · intro hh
      have h0 : h.slot ≠ 0 := by simpa using hh
      have he : holdErr x h a.who = 10 := by unfold holdErr; rw [if_pos h0]
      have n10 : ¬ (10 : Int) = 0 := by decide
      rw [he, if_neg n10]
      refine W_seq ?_
      refine W_reg rfl ?_
      refine O_qs (q_move rfl) ?_
      refine O_qs (q_eql rfl rfl) ?_
      refine O_qs (q_assign rfl) ?_
      refine O_nil ?_
      refine W_ret ?_
      refine res1 (c0 := [coreA cb qb x (e) (h) (r), qraw qb (v) (hd_) (L).length, R, uraw ub x (e) (v3) (n3) ((h).slot) (r), R3, A, oraw mb (v2), R2, [(ib, .cells #[.int .i64 (idv)] 3 (0, 0))]]) rfl rfl (by repeat (first | exact Pick.nil | exact Take.here | apply Pick.cons | apply Take.there)) rfl ?_
      exact ⟨⟨e, h, r, v, hd_, L, R, ring, k, v3, n3, R3, A, l, cnt, v2, R2, l2, idv⟩, ⟨qm, p, o, f, z, i, rt, m, ll1⟩, (by rw [hlk]; rfl), rfl, rfl⟩
    · intro hh
      have h0 : ¬ h.slot ≠ 0 := by simpa using hh
      refine W_skip ?_
      refine W_seq ?_
      refine W_seq ?_
      refine W_draw [[], [0], [0, 1], [0, 1, 2], [0, 1, 2, 3], [0, 1, 2, 3, 4], [0, 1, 2, 3, 4, 5], [0, 1, 2, 3, 4, 5, 6], [0, 1, 2, 3, 4], [0, 1, 2, 3, 4, 8], [0, 1, 2, 3, 4, 8, 9], [0, 1, 2, 3, 4, 8, 9, 10], [0, 1, 2, 3, 4, 8, 9, 10, 11], [0, 1, 2, 3, 4, 5, 6, 7, 8, 9, 10, 11, 12], [0, 1, 2, 3, 4, 5, 6, 7, 8, 9, 10, 11, 12, 13]] rfl rfl rfl ?_
      refine V.qs 0 rfl rfl (q_fa fa_47_2 rfl) ?_
      refine V.qs 1 rfl rfl (q_fa fa_43_0 rfl) ?_
      refine V.qs 2 rfl rfl (q_load Try.isAgg3 rfl (rd_chunk (by repeat (first | exact List.Mem.head _ | apply List.Mem.tail)) rfl)) ?_
      refine V.qs 3 rfl rfl (q_lss rfl rfl) ?_
      refine V.qs 4 rfl rfl (q_move rfl) ?_
      refine V.qs 5 rfl rfl (QY.cond0 rfl rfl rfl (fun H => q_fa fa_47_2 rfl)) ?_
      refine V.qs 6 rfl rfl (QY.cond0 rfl rfl rfl (fun H => q_fa fa_43_0 (gvh rfl H))) ?_
      refine V.qs 7 rfl rfl (QY.cond0 rfl rfl rfl (fun H => q_load Try.isAgg3 (gvh rfl H) (rd_chunk (by repeat (first | exact List.Mem.head _ | apply List.Mem.tail)) rfl))) ?_
      refine V.qs 8 rfl rfl (QY.cond0 rfl rfl rfl (fun H => q_move rfl)) ?_
      refine V.qs 9 rfl rfl (QY.cond0 rfl rfl rfl (fun H => q_nil (gvh rfl H))) ?_
      refine V.qs 10 rfl rfl (QY.cond0 rfl rfl rfl (fun H => q_fa fa_34_0 (gvh rfl H))) ?_
      refine V.qs 11 rfl rfl (QY.cond0 rfl rfl rfl (fun H => q_fa fa_23_1 (gvh rfl H))) ?_
      refine V.qs 12 rfl rfl (QY.cond0 rfl rfl rfl (fun H => q_load Try.isAgg3 (gvh rfl H) (rd_chunk (by repeat (first | exact List.Mem.head _ | apply List.Mem.tail)) rfl))) ?_
      refine V.qs 13 rfl rfl (QY.cond0 rfl rfl rfl (fun H => q_gtr (gvh rfl H) (gvh rfl H))) ?_
      refine V.qs 14 rfl rfl (q_or rfl rfl rfl) ?_
      refine V.fin rfl ?_
      refine W_cond rfl ?_ ?_
      · intro hg
        have h1 : a.who.slot < 1 ∨ x.slots < a.who.slot := by simpa using hg
        have he : holdErr x h a.who = 1 := by unfold holdErr; rw [if_neg h0, if_pos h1]
        have n10 : ¬ (1 : Int) = 0 := by decide
        rw [he, if_neg n10]
        refine W_seq ?_
        refine W_reg rfl ?_
        refine O_qs (q_move rfl) ?_
        refine O_qs (q_eql rfl rfl) ?_
        refine O_qs (q_assign rfl) ?_
        refine O_nil ?_
        refine W_ret ?_
        refine res1 (c0 := [coreA cb qb x (e) (h) (r), qraw qb (v) (hd_) (L).length, R, uraw ub x (e) (v3) (n3) ((h).slot) (r), R3, A, oraw mb (v2), R2, [(ib, .cells #[.int .i64 (idv)] 3 (0, 0))]]) rfl rfl (by repeat (first | exact Pick.nil | exact Take.here | apply Pick.cons | apply Take.there)) rfl ?_
        exact ⟨⟨e, h, r, v, hd_, L, R, ring, k, v3, n3, R3, A, l, cnt, v2, R2, l2, idv⟩, ⟨qm, p, o, f, z, i, rt, m, ll1⟩, (by rw [hlk]; rfl), rfl, rfl⟩
      · intro hg
        have h1 : ¬ (a.who.slot < 1 ∨ x.slots < a.who.slot) := by simp at hg; omega
        have he : holdErr x h a.who = 0 := by unfold holdErr; rw [if_neg h0, if_neg h1]
        rw [he, if_pos rfl]
        refine W_skip ?_
        refine W_seq ?_
        refine W_reg rfl ?_
        refine O_qs (q_move rfl) ?_
        refine O_qs (q_fa fa_47_2 rfl) ?_
        refine O_qs (q_fa fa_43_0 rfl) ?_
        refine O_qs (q_load Try.isAgg3 rfl (rd_chunk (by repeat (first | exact List.Mem.head _ | apply List.Mem.tail)) rfl)) ?_
        refine O_qs (q_nil rfl) ?_
        refine O_qs (q_fa fa_34_3 rfl) ?_
        refine O_en (e_store Try.sizeOf3 rfl rfl rfl (by repeat (first | exact Upd.here | apply Upd.there)) rfl (by simp only [setAll, List.setIfInBounds_toArray, List.set_cons_succ, List.set_cons_zero, Nat.reduceAdd, Nat.zero_add] <;> rfl)) ?_
        rintro _ _ ⟨rfl, rfl⟩
        refine O_nil ?_
        refine W_seq ?_
        refine W_reg rfl ?_
        refine O_qs (q_move rfl) ?_
        refine O_qs (q_fa fa_47_2 rfl) ?_
        refine O_qs (q_fa fa_43_1 rfl) ?_
        refine O_qs (q_load Try.isAgg3 rfl (rd_chunk (by repeat (first | exact List.Mem.head _ | apply List.Mem.tail)) rfl)) ?_
        refine O_qs (q_nil rfl) ?_
        refine O_en (e_store Try.sizeOf3 rfl rfl rfl (by repeat (first | exact Upd.here | apply Upd.there)) rfl (by simp only [setAll, List.setIfInBounds_toArray, List.set_cons_succ, List.set_cons_zero, Nat.reduceAdd, Nat.zero_add] <;> rfl)) ?_
        rintro _ _ ⟨rfl, rfl⟩
        refine O_nil ?_
        refine W_seq ?_
        refine W_reg rfl ?_
        refine O_qs (q_move rfl) ?_
        refine O_qs (q_eql rfl rfl) ?_
        refine O_qs (q_assign rfl) ?_
        refine O_nil ?_
        refine W_ret ?_
        refine res1 (c0 := [coreA cb qb x (e) (a.who) (r), qraw qb (v) (hd_) (L).length, R, uraw ub x (e) (v3) (n3) ((a.who).slot) (r), R3, A, oraw mb (v2), R2, [(ib, .cells #[.int .i64 (a.who.id)] 3 (0, 0))]]) rfl rfl (by repeat (first | exact Pick.nil | exact Take.here | apply Pick.cons | apply Take.there)) rfl ?_
        exact ⟨⟨e, a.who, r, v, hd_, L, R, ring, k, v3, n3, R3, A, l, cnt, v2, R2, l2, a.who.id⟩, ⟨qm, p, o, f, fun hz => by have : a.who.slot = 0 := hz; omega, fun _ => ⟨rfl, by show 0 < a.who.slot; omega⟩, rt, m, ll1⟩, (by rw [hlk]; rfl), rfl, rfl⟩
  intro hck9
  refine W_seq ?_
  refine W_reg rfl ?_
  refine O_qs (q_eql rfl rfl) ?_
  refine O_qs (q_assign rfl) ?_
  refine O_nil ?_
  refine W_cond rfl ?_ ?_
  · intro hc
    have hk : a.kind = 10 := by simpa using hc
    have hlk : a.looks = false := by unfold Deed.looks; simp; omega
    refine W_seq ?_
    refine W_reg rfl ?_
    refine O_qs (q_move rfl) ?_
    refine O_es (e_cf Try.call68 rfl (fun wd hwd => (core_Take _ cb qb x e h r)) (by repeat (first | exact Pick.nil | exact Take.here | apply Pick.cons | apply Take.there))) ?_
    rintro _ _ ⟨_, ⟨rfl, rfl⟩, rfl⟩
    refine O_qs (q_move rfl) ?_
    refine O_qs (q_extract rfl rfl) ?_
    refine O_qs (q_extract rfl rfl) ?_
    refine O_es (e_alloc (cs := #[.int .i64 0, .int .i64 0]) Try.zeroValue43 rfl) ?_
    rintro _ _ ⟨b15, rfl, rfl⟩
    refine O_en (e_storeN (vs := [_, _]) Try.sizeOf43 rfl rfl rfl (by repeat (first | exact Upd.here | apply Upd.there)) rfl (by simp only [setAll, List.setIfInBounds_toArray, List.set_cons_succ, List.set_cons_zero, Nat.reduceAdd, Nat.zero_add] <;> rfl)) ?_
    rintro _ _ ⟨rfl, rfl⟩
    refine O_qs (q_assign rfl) ?_
    refine O_nil ?_
    refine W_seq ?_
    refine W_reg rfl ?_
    refine O_qs (q_move rfl) ?_
    refine O_qs (q_nil rfl) ?_
    refine O_qs (q_fa fa_34_3 rfl) ?_
    refine O_qs (q_load Try.isAgg3 rfl (rd_chunk (by repeat (first | exact List.Mem.head _ | apply List.Mem.tail)) rfl)) ?_
    refine O_qs (q_assign rfl) ?_
    refine O_nil ?_
    refine W_seq ?_
    refine W_reg rfl ?_
    refine O_qs (q_move rfl) ?_
    refine O_qs (q_nil rfl) ?_
    refine O_qs (q_fa fa_34_3 rfl) ?_
    refine O_en (e_store Try.sizeOf3 rfl rfl rfl (by repeat (first | exact Upd.here | apply Upd.there)) rfl (by simp only [setAll, List.setIfInBounds_toArray, List.set_cons_succ, List.set_cons_zero, Nat.reduceAdd, Nat.zero_add] <;> rfl)) ?_
    rintro _ _ ⟨rfl, rfl⟩
    refine O_nil ?_
    refine W_seq ?_
    refine W_draw [[], [], [1], [0, 1, 2], [0, 1, 2, 3], [0, 1, 2, 3, 4], [0, 1, 2, 3, 4, 5], [0, 1, 2, 3, 4, 5, 6], [0, 1, 2, 3, 4, 5, 6, 7], [0, 1, 2, 3, 4, 5, 6, 7], [0, 1, 2, 3, 4, 5, 6, 7, 8, 9], [0, 1, 2, 3, 4, 5, 6, 7, 8, 9, 10], [0, 1, 2, 3, 4, 5, 6, 7, 8, 9, 10, 11], [0, 1, 2, 3, 4, 5, 6, 7, 8, 9, 10, 11, 12], [0, 1, 2, 3, 4, 5, 6, 7, 8, 9, 10, 11, 12, 13], [0, 1, 2, 3, 4, 5, 6, 7, 8, 9, 10, 11, 12, 13, 14], [0, 1, 2, 3, 4, 5, 6, 7, 8, 9, 10, 11, 12, 13, 14], [0, 1, 2, 3, 4, 5, 6, 7, 8, 9, 10, 11, 12, 13, 14], [0, 1, 2, 3, 4, 5, 6, 7, 8, 9, 10, 11, 12, 13, 14, 17], [0, 1, 2, 3, 4, 5, 6, 7, 8, 9, 10, 11, 12, 13, 14, 17, 18], [0, 1, 2, 3, 4, 5, 6, 7, 8, 9, 10, 11, 12, 13, 14, 16, 17, 18, 19], [0, 1, 2, 3, 4, 5, 6, 7, 8, 9, 10, 11, 12, 13, 14, 15, 16, 17, 18, 19, 20], [0, 1, 2, 3, 4, 5, 6, 7, 8, 9, 10, 11, 12, 13, 14, 15, 16, 17, 18, 19, 20, 21], [0, 1, 2, 3, 4, 5, 6, 7, 8, 9, 10, 11, 12, 13, 14, 15, 16, 17, 18, 19, 20, 21, 22], [0, 1, 2, 3, 4, 5, 6, 7, 8, 9, 10, 11, 12, 13, 14, 15, 16, 17, 18, 19, 20, 21, 22, 23], [0, 1, 2, 3, 4, 5, 6, 7, 8, 9, 10, 11, 12, 13, 14, 15, 16, 17, 18, 19, 20, 21, 22, 23, 24]] rfl rfl rfl ?_
    refine V.qs 0 rfl rfl (q_move rfl) ?_
    refine V.qs 1 rfl rfl (q_move rfl) ?_
    refine V.qs 2 rfl rfl (q_neq rfl rfl) ?_
    refine V.qs 3 rfl rfl (q_eqb Try.runUnderlying4 rfl rfl) ?_
    refine V.qs 4 rfl rfl (q_move rfl) ?_
    refine V.qs 5 rfl rfl (QY.cond0 rfl rfl rfl (fun H => q_move rfl)) ?_
    refine V.qs 6 rfl rfl (QY.cond0 rfl rfl rfl (fun H => q_not (gvh rfl H))) ?_
    refine V.qs 7 rfl rfl (QY.cond0 rfl rfl rfl (fun H => q_move (gvh rfl H))) ?_
    refine V.qs 8 rfl rfl (QY.condn rfl rfl rfl (fun H => q_loadN (vs := [_, _]) Try.isAgg43 Try.sizeOf43 rfl (rd_range (by repeat (first | exact List.Mem.head _ | apply List.Mem.tail)) rfl))) ?_
    refine V.qs 9 rfl rfl (QY.condn rfl rfl rfl (fun H => q_build rfl (bld_43 (cs := [_, _]) rfl))) ?_
    refine V.qs 10 rfl rfl (QY.condn rfl rfl rfl (fun H => q_bin eql_43 (gvh rfl H) (gvh rfl H))) ?_
    refine V.qs 11 rfl rfl (QY.cond0 rfl rfl rfl (fun H => q_and (gvh rfl H) (gva rfl H) rfl)) ?_
    refine V.qs 12 rfl rfl (QY.cond0 rfl rfl rfl (fun H => q_move (gvh rfl H))) ?_
    refine V.qs 13 rfl rfl (QY.condn rfl rfl rfl (fun H => q_move rfl)) ?_
    refine V.qs 14 rfl rfl (QY.condn rfl rfl rfl (fun H => q_move (gvh rfl H))) ?_
    refine V.qs 15 rfl rfl (QY.condn rfl rfl rfl (fun H => q_loadN (vs := [_, _]) Try.isAgg43 Try.sizeOf43 rfl (rd_range (by repeat (first | exact List.Mem.head _ | apply List.Mem.tail)) rfl))) ?_
    refine V.qs 16 rfl rfl (QY.condn rfl rfl rfl (fun H => q_move rfl)) ?_
    refine V.qs 17 rfl rfl (QY.condn rfl rfl rfl (fun H => q_move rfl)) ?_
    refine V.qs 18 rfl rfl (QY.condn rfl rfl rfl (fun H => q_nil (gvh rfl H))) ?_
    refine V.qs 19 rfl rfl (QY.condn rfl rfl rfl (fun H => q_load Try.isAgg3 (gvh rfl H) (rd_chunk (by repeat (first | exact List.Mem.head _ | apply List.Mem.tail)) rfl))) ?_
    refine V.qs 20 rfl rfl (QY.condn rfl rfl rfl (fun H => q_build (ev_cons (gvh rfl H) (ev_cons (gvh rfl H) ev_nil)) (bld_43 (cs := [_, _]) rfl))) ?_
    refine V.qs 21 rfl rfl (QY.condn rfl rfl rfl (fun H => q_bin eql_43 (gvh rfl H) (gvh rfl H))) ?_
    refine V.qs 22 rfl rfl (QY.condn rfl rfl rfl (fun H => q_and (gvh rfl H) (gva rfl H) rfl)) ?_
    refine V.qs 23 rfl rfl (QY.cond0 rfl rfl rfl (fun H => q_or (gvh rfl H) rfl (gva rfl H))) ?_
    refine V.qs 24 rfl rfl (q_and rfl rfl rfl) ?_
    refine V.qs 25 rfl rfl (q_assign rfl) ?_
    refine V.fin rfl ?_
    refine W_ret ?_
    by_cases h0 : h.slot = 0
    · have hid := z h0
      rw [if_pos h0]
      refine res1 (c0 := [coreA cb qb x (e) (h) (r), qraw qb (v) (hd_) (L).length, R, uraw ub x (e) (v3) (n3) (0) (r), R3, A, oraw mb (v2), R2, [(ib, .cells #[.int .i64 (idv)] 3 (0, 0))]]) rfl rfl (by repeat (first | exact Pick.nil | exact Take.here | apply Pick.cons | apply Take.there)) rfl ?_
      refine ⟨⟨e, h, r, v, hd_, L, R, ring, k, v3, n3, R3, A, l, cnt, v2, R2, l2, idv⟩, ⟨qm, p, o, f, z, i, rt, m, ll1⟩, (by rw [hlk]; rfl), ?_, ?_⟩
      · simp [h0, hid]
      · simp [h0]
    · have hid := i h0
      rw [if_neg h0]
      refine res1 (c0 := [coreA cb qb x (e) ((⟨0, 0⟩ : Who)) (r), qraw qb (v) (hd_) (L).length, R, uraw ub x (e) (v3) (n3) (((⟨0, 0⟩ : Who)).slot) (r), R3, A, oraw mb (v2), R2, [(ib, .cells #[.int .i64 (idv)] 3 (0, 0))]]) rfl rfl (by repeat (first | exact Pick.nil | exact Take.here | apply Pick.cons | apply Take.there)) rfl ?_
      refine ⟨⟨e, (⟨0, 0⟩ : Who), r, v, hd_, L, R, ring, k, v3, n3, R3, A, l, cnt, v2, R2, l2, idv⟩, ⟨qm, p, o, f, fun _ => rfl, fun hz => absurd rfl hz, rt, m, ll1⟩, (by rw [hlk]; rfl), ?_, rfl⟩
      simp [h0, hid.1]
  intro hck10
  refine W_seq ?_
  refine W_reg rfl ?_
  refine O_qs (q_eql rfl rfl) ?_
  refine O_qs (q_assign rfl) ?_
  refine O_nil ?_
  refine W_cond rfl ?_ ?_
  · intro hc
    have hk : a.kind = 11 := by simpa using hc
    have hlk : a.looks = false := by unfold Deed.looks; simp; omega
    refine W_seq ?_
    refine W_reg rfl ?_
    refine O_qs (q_move rfl) ?_
    refine O_es (e_cf Try.call51 rfl (fun wd hwd => (core_Drop _ cb qb x e h r R v ring k hd_ T L q (by omega))) (by repeat (first | exact Pick.nil | exact Take.here | apply Pick.cons | apply Take.there))) ?_
    rintro _ _ ⟨_, ⟨R', v', ring', k', hd', q', rfl, rfl⟩, rfl⟩
    refine O_nil ?_
    refine W_reg rfl ?_
    refine O_qs (q_move rfl) ?_
    refine O_es (e_cf Try.call69 rfl (fun wd hwd => (ref13_Drop _ ub x e n3 h.slot r R3 v3 (L.map refE) f (by have := q.bnd; simp; omega))) (by repeat (first | exact Pick.nil | exact Take.here | apply Pick.cons | apply Take.there))) ?_
    rintro _ _ ⟨_, ⟨R3', v3', n3', f', rfl, rfl⟩, rfl⟩
    refine O_nil ?_
    refine W_seq ?_
    refine W_reg rfl ?_
    refine O_qs (q_assign rfl) ?_
    refine O_nil ?_
    refine W_ret ?_
    by_cases h0 : h.slot = 0
    · have hn : ¬ 0 < h.slot := by omega
      rw [if_pos h0] at q'
      rw [if_neg hn] at f'
      simp only [if_pos h0, if_neg hn]
      refine res1 (c0 := [coreA cb qb x (e) (h) (r), qraw qb (v') (hd') (L).length, R', uraw ub x (e) (v3') (n3') ((h).slot) (r), R3', A, oraw mb (v2), R2, [(ib, .cells #[.int .i64 (idv)] 3 (0, 0))]]) rfl rfl (by repeat (first | exact Pick.nil | exact Take.here | apply Pick.cons | apply Take.there)) rfl ?_
      exact ⟨⟨e, h, r, v', hd', L, R', ring', k', v3', n3', R3', A, l, cnt, v2, R2, l2, idv⟩, ⟨q', p, o, f', z, i, rt, m, ll1⟩, (by rw [hlk]; rfl), rfl, rfl⟩
    · have hn : 0 < h.slot := (i h0).2
      rw [if_neg h0] at q'
      rw [if_pos hn] at f'
      simp only [if_neg h0, if_pos hn]
      refine res1 (c0 := [coreA cb qb x (e) ((⟨0, 0⟩ : Who)) (r), qraw qb (v') (hd') (L ++ [(⟨h.slot, 0, h.id⟩ : SL.Entry)]).length, R', uraw ub x (e) (v3') (n3') (((⟨0, 0⟩ : Who)).slot) (r), R3', A, oraw mb (v2), R2, [(ib, .cells #[.int .i64 (idv)] 3 (0, 0))]]) rfl rfl (by repeat (first | exact Pick.nil | exact Take.here | apply Pick.cons | apply Take.there)) rfl ?_
      refine ⟨⟨e, (⟨0, 0⟩ : Who), r, v', hd', (L ++ [(⟨h.slot, 0, h.id⟩ : SL.Entry)]), R', ring', k', v3', n3', R3', A, l, cnt, v2, R2, l2, idv⟩, ⟨q', p, o, ?_, fun _ => rfl, fun hz => absurd rfl hz, ?_, m, ll1⟩, (by rw [hlk]; rfl), rfl, rfl⟩
      · show Row layE 63 R3' v3' ((L ++ [(⟨h.slot, 0, h.id⟩ : SL.Entry)]).map refE)
        rw [List.map_append]
        exact f'
      · intro y hy
        rcases List.mem_append.1 hy with hy | hy
        · exact rt y hy
        · rw [List.mem_singleton.1 hy]
  intro hck11
  refine W_skip ?_
  refine W_seq ?_
  refine W_reg rfl ?_
  refine O_qs (q_assign rfl) ?_
  refine O_nil ?_
  refine W_ret ?_
  refine res1 (c0 := [coreA cb qb x (e) (h) (r), qraw qb (v) (hd_) (L).length, R, uraw ub x (e) (v3) (n3) ((h).slot) (r), R3, A, oraw mb (v2), R2, [(ib, .cells #[.int .i64 (idv)] 3 (0, 0))]]) rfl rfl (by repeat (first | exact Pick.nil | exact Take.here | apply Pick.cons | apply Take.there)) rfl ?_
  have hlk : a.looks = false := by
    unfold Deed.looks
    simp at hck12 hck34
    simp
    omega
  refine ⟨⟨e, h, r, v, hd_, L, R, ring, k, v3, n3, R3, A, l, cnt, v2, R2, l2, idv⟩, ⟨qm, p, o, f, z, i, rt, m, ll1⟩, ?_, rfl, rfl⟩
  rw [hlk]; rfl
end Go.Proofs.Ytaphhhnnplljdaa
