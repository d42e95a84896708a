/-
  Walks: hist, calls out of events.
-/
import Derived.Test.YtolcdmbjddekeaaH3
import Derived.Test.YtolcdmbjddekeaaMap
set_option linter.unusedSimpArgs false
set_option linter.unusedVariables false
namespace Go.Proofs.Ytolcdmbjddekeaa
open Go Go.SL

structure HEv where
  step : Int
  thread : Int
  idle : Bool
  op : AOp
  at_ : Int
  began : Bool
  over : Bool
  ans : Ans
@[reducible] def HEv.l (e : HEv) : List Value := [.int .i64 e.step, .int .i64 e.thread, .bool e.idle, .int .i64 e.op.kind, .int .u64 e.op.key, .int .u64 e.op.val, .int .i64 e.op.level, .int .i64 e.at_, .bool e.began, .bool e.over, .int .i64 e.ans.err, .bool e.ans.done, .int .u64 e.ans.val]
@[reducible] def HEv.v (e : HEv) : Value := .agg #[.int .i64 e.step, .int .i64 e.thread, .bool e.idle, .int .i64 e.op.kind, .int .u64 e.op.key, .int .u64 e.op.val, .int .i64 e.op.level, .int .i64 e.at_, .bool e.began, .bool e.over, .int .i64 e.ans.err, .bool e.ans.done, .int .u64 e.ans.val]

theorem keyInt : KeyLaw Try.prog 3 (Value.int .i64) := KeyLaw.int Try.runUnderlying3

def newCall (e : HEv) (t : Int) : HCall := ⟨e.thread, e.at_, e.op, t, -1, Ans.zero⟩
def HEv.fits (e : HEv) (c : HCall) : Bool := decide (c.op = e.op) && decide (c.at_ = e.at_) && (e.over || decide (e.ans = Ans.zero))
def finF (calls : List HCall) (on : List (Int × Int)) (i : Nat) (e : HEv) (t : Int) : Option (List HCall × List (Int × Int)) :=
  match calls[i]? with
  | none => none
  | some c => if e.fits c then (if e.over then some (calls.set i { c with to_ := t, ans := e.ans }, mdel on e.thread) else some (calls, on)) else none
/-- An event, seen at its time. -/
def seeF (calls : List HCall) (on : List (Int × Int)) (e : HEv) (t : Int) : Option (List HCall × List (Int × Int)) :=
  if e.began = (mget on e.thread).isSome then none
  else if e.began then finF (calls ++ [newCall e t]) (mput on e.thread (calls.length : Int)) calls.length e t
  else finF calls on ((mget on e.thread).getD 0).toNat e t

theorem aop_ext {a b : AOp} (h1 : a.kind = b.kind) (h2 : a.key = b.key) (h3 : a.val = b.val) (h4 : a.level = b.level) : a = b := by cases a; cases b; simp_all
theorem ans_ext {a : Ans} (h1 : a.err = 0) (h2 : a.done = false) (h3 : a.val = 0) : a = Ans.zero := by cases a; simp_all [Ans.zero]

theorem lk_T {B : World} {own : List Nat} {n : Nat} {all : Array Oper} {env : Env} {ctx : Ctx} {dst : Option Tmp} {ty : TypeId} {pos : String} {aft : Array Edge} {x y : Operand} {A : Atom} {mb : Nat} {l : List (Int × Int)} {p : Int}
    (hA : MapIs (Value.int .i64) (Value.int .i64) A mb l) (hm : A ∈ ctx) (hx : evalO env x = some (.map (some mb))) (hy : evalO env y = some (.int .i64 p)) :
    QY ⟨Try.prog, B, own, n⟩ all ⟨dst, .lookup 59 x y true, ty, pos, aft, none⟩ env ctx (.tuple #[.int .i64 ((mget l p).getD 0), .bool (mget l p).isSome]) := by
  have h : mgetD (Value.int .i64) (.int .i64 0) l p = .int .i64 ((mget l p).getD 0) := by
    unfold mgetD
    cases mget l p <;> rfl
  rw [← h]
  exact q_lookup2 Try.runUnderlying59 keyInt Try.zeroValue3 hA hm hx hy

abbrev mraw (mk mb : Nat) (v : Value) : Atom := [(mk, .cells #[v, .map (some mb)] 61 (0, 0))]

theorem hist_see (B : World) (mk mb : Nat) (v : Value) (R M : Atom) (calls : List HCall) (on : List (Int × Int)) (e : HEv) (t : Int) (hR : Row layH 44 R v calls) (hM : MapIs (Value.int .i64) (Value.int .i64) M mb on) (hlen : calls.length ≤ 1000000)
    (hon : ∀ k i, mget on k = some i → 0 ≤ i ∧ i < calls.length) :
    Ctr Try.prog 20 [ptr mk, e.v, .int .i64 t] B [mraw mk mb v, R, M]
      (fun u k => (seeF calls on e t = none ∧ u = .bool false ∧ k = []) ∨ (∃ calls' on' v' R' M', seeF calls on e t = some (calls', on') ∧ Row layH 44 R' v' calls' ∧ MapIs (Value.int .i64) (Value.int .i64) M' mb on' ∧ u = .bool true ∧ k = [mraw mk mb v', R', M'])) := by
  obtain ⟨va, vc, rfl⟩ := hR.len
  refine Ctr.intro (n := 105) Try.func20 rfl Try.ntmps20 (Nat.le_of_ble_eq_true rfl) ?_
  refine W_seq ?_
  refine W_reg rfl ?_
  refine O_es (e_box (cs := #[_, _, _, _, _, _, _, _, _, _, _, _, _]) rfl rfl) ?_
  rintro _ _ ⟨b4, rfl, rfl⟩
  refine O_qs (q_assign rfl) ?_
  refine O_nil ?_
  refine W_seq ?_
  refine W_draw [[], [0], [0, 1], [0, 1, 2], [], [4], [0, 1, 2, 3, 4, 5], [0, 1, 2, 3, 4, 5, 6], [0, 1, 2, 3, 4, 5, 6, 7], [0, 1, 2, 3, 4, 5, 6, 7], [0, 1, 2, 3, 4, 5, 6, 7, 8], [0, 1, 2, 3, 4, 5, 6, 7, 8, 9, 10]] rfl rfl rfl ?_
  refine V.qs 0 rfl rfl (q_move rfl) ?_
  refine V.qs 1 rfl rfl (q_nil rfl) ?_
  refine V.qs 2 rfl rfl (q_fa fa_61_1 rfl) ?_
  refine V.qs 3 rfl rfl (q_load Try.isAgg59 rfl (rd_chunk (by repeat (first | exact List.Mem.head _ | apply List.Mem.tail)) rfl)) ?_
  refine V.qs 4 rfl rfl (q_fa fa_32_1 rfl) ?_
  refine V.qs 5 rfl rfl (q_load Try.isAgg3 rfl (rd_chunk (by repeat (first | exact List.Mem.head _ | apply List.Mem.tail)) rfl)) ?_
  refine V.qs 6 rfl rfl (lk_T hM (by repeat (first | exact List.Mem.head _ | apply List.Mem.tail)) rfl rfl) ?_
  refine V.qs 7 rfl rfl (q_move rfl) ?_
  refine V.qs 8 rfl rfl (q_extract rfl rfl) ?_
  refine V.qs 9 rfl rfl (q_extract rfl rfl) ?_
  refine V.qs 10 rfl rfl (q_assign rfl) ?_
  refine V.qs 11 rfl rfl (q_assign rfl) ?_
  refine V.fin rfl ?_
  refine W_seq ?_
  refine W_seq ?_
  refine W_reg rfl ?_
  refine O_qs (q_fa fa_32_5 rfl) ?_
  refine O_qs (q_load Try.isAgg4 rfl (rd_chunk (by repeat (first | exact List.Mem.head _ | apply List.Mem.tail)) rfl)) ?_
  refine O_qs (q_move rfl) ?_
  refine O_qs (q_eqb Try.runUnderlying4 rfl rfl) ?_
  refine O_nil ?_
  refine W_cond rfl ?_ ?_
  · intro hc
    have h1 : e.began = (mget on e.thread).isSome := by simpa using hc
    refine W_seq ?_
    refine W_reg rfl ?_
    refine O_qs (q_assign rfl) ?_
    refine O_nil ?_
    refine W_ret ?_
    refine res1 (c0 := []) rfl rfl (by repeat (first | exact Pick.nil | exact Take.here | apply Pick.cons | apply Take.there)) rfl ?_
    exact .inl ⟨by unfold seeF; rw [if_pos h1], rfl, rfl⟩
  · intro hc
    have h1 : ¬ e.began = (mget on e.thread).isSome := by simpa using hc
    have hs0 : seeF calls on e t = if e.began then finF (calls ++ [newCall e t]) (mput on e.thread (calls.length : Int)) calls.length e t else finF calls on ((mget on e.thread).getD 0).toNat e t := by unfold seeF; rw [if_neg h1]
    refine W_skip ?_
    refine W_seq ?_
    refine W_seq ?_
    refine W_reg rfl ?_
    refine O_qs (q_fa fa_32_5 rfl) ?_
    refine O_qs (q_load Try.isAgg4 rfl (rd_chunk (by repeat (first | exact List.Mem.head _ | apply List.Mem.tail)) rfl)) ?_
    refine O_nil ?_
    refine W_cut (fun (d : Nat × Option Addr × Nat × Atom × Atom × List HCall × List (Int × Int)) => [(7, .int .i64 ((d.1 : Nat) : Int)), (4, ptr b4), (2, .int .i64 t), (0, ptr mk)]) (fun (i, a, cap, R', M', cs, _) => [[(b4, .cells (HEv.l e).toArray 32 (0, 0))], mraw mk mb (.slice a cs.length cap), R', M']) (fun (i, a, cap, R', M', cs, on') => Row layH 44 R' (.slice a cs.length cap) cs ∧ MapIs (Value.int .i64) (Value.int .i64) M' mb on' ∧ i < cs.length ∧ seeF calls on e t = finF cs on' i e t) ?_ ?_
    · refine W_cond rfl ?_ ?_
      · intro hb
        have hb' : e.began = true := hb
        refine W_seq ?_
        refine W_reg rfl ?_
        refine O_qs (q_move rfl) ?_
        refine O_qs (q_nil rfl) ?_
        refine O_qs (q_fa fa_61_0 rfl) ?_
        refine O_qs (q_load Try.isAgg35 rfl (rd_chunk (by repeat (first | exact List.Mem.head _ | apply List.Mem.tail)) rfl)) ?_
        refine O_qs (q_len Try.runUnderlying35 rfl) ?_
        refine O_qs (q_assign rfl) ?_
        refine O_nil ?_
        refine W_seq ?_
        refine W_draw [[], [0], [0, 1], [0, 1, 2], [], [4], [], [0, 1, 2, 3, 4, 5, 6]] rfl rfl rfl ?_
        refine V.qs 0 rfl rfl (q_move rfl) ?_
        refine V.qs 1 rfl rfl (q_nil rfl) ?_
        refine V.qs 2 rfl rfl (q_fa fa_61_1 rfl) ?_
        refine V.qs 3 rfl rfl (q_load Try.isAgg59 rfl (rd_chunk (by repeat (first | exact List.Mem.head _ | apply List.Mem.tail)) rfl)) ?_
        refine V.qs 4 rfl rfl (q_fa fa_32_1 rfl) ?_
        refine V.qs 5 rfl rfl (q_load Try.isAgg3 rfl (rd_chunk (by repeat (first | exact List.Mem.head _ | apply List.Mem.tail)) rfl)) ?_
        refine V.qs 6 rfl rfl (q_move rfl) ?_
        refine V.e1n 7 [] rfl rfl rfl (e_mapUpdate Try.runUnderlying59 keyInt hM (fun _ => (by repeat (first | exact Upd.here | apply Upd.there))) rfl rfl rfl) ?_
        rintro _ _ ⟨M', hM', rfl, rfl⟩
        refine ⟨st_nil, ?_⟩
        refine V.fin rfl ?_
        refine W_draw [[], [], [1], [1, 2], [1, 2, 3], [], [5], [], [7], [], [9], [], [5, 6, 7, 8, 9, 10, 11], [5, 6, 7, 8, 9, 10, 11, 12], [1, 2, 3, 4, 5, 6, 7, 8, 9, 10, 11, 12, 13], [0, 1, 2, 3, 4, 5, 6, 7, 8, 9, 10, 11, 12, 13, 14], [0, 1, 2, 3, 4, 5, 6, 7, 8, 9, 10, 11, 12, 13, 14, 15], [0, 1, 2, 3, 4, 5, 6, 7, 8, 9, 10, 11, 12, 13, 14, 15, 16]] rfl rfl rfl ?_
        refine V.qs 0 rfl rfl (q_move rfl) ?_
        refine V.qs 1 rfl rfl (q_move rfl) ?_
        refine V.qs 2 rfl rfl (q_nil rfl) ?_
        refine V.qs 3 rfl rfl (q_fa fa_61_0 rfl) ?_
        refine V.qs 4 rfl rfl (q_load Try.isAgg35 rfl (rd_chunk (by repeat (first | exact List.Mem.head _ | apply List.Mem.tail)) rfl)) ?_
        refine V.qs 5 rfl rfl (q_fa fa_32_1 rfl) ?_
        refine V.qs 6 rfl rfl (q_load Try.isAgg3 rfl (rd_chunk (by repeat (first | exact List.Mem.head _ | apply List.Mem.tail)) rfl)) ?_
        refine V.qs 7 rfl rfl (q_fa fa_32_4 rfl) ?_
        refine V.qs 8 rfl rfl (q_load Try.isAgg3 rfl (rd_chunk (by repeat (first | exact List.Mem.head _ | apply List.Mem.tail)) rfl)) ?_
        refine V.qs 9 rfl rfl (q_fa fa_32_3 rfl) ?_
        refine V.qs 10 rfl rfl (q_loadN (vs := [_, _, _, _]) Try.isAgg27 Try.sizeOf27 rfl (rd_range (by repeat (first | exact List.Mem.head _ | apply List.Mem.tail)) rfl)) ?_
        refine V.qs 11 rfl rfl (q_move rfl) ?_
        refine V.qs 12 rfl rfl (q_build rfl (bld_44 (cs := [_, _, _, _, _, _, _, _, _, _, _]) rfl)) ?_
        refine V.e1s 13 [4, 3, 2, 1, 0] rfl rfl rfl (e_bslice (zl := [.int .i64 0, .int .i64 0, .int .i64 0, .int .u64 0, .int .u64 0, .int .i64 0, .int .i64 0, .int .i64 0, .int .i64 0, .bool false, .int .u64 0]) (cs := [_, _, _, _, _, _, _, _, _, _, _]) Try.runUnderlying35 Try.sizeOf44 Try.zeroValue44 rfl (by kernel_rfl) rfl rfl) ?_
        rintro _ _ ⟨b51, rfl, rfl⟩
        refine ⟨st rfl rfl (q_load Try.isAgg35 rfl (rd_chunk (by repeat (first | exact List.Mem.head _ | apply List.Mem.tail)) rfl)) (st rfl rfl (q_fa fa_61_0 rfl) (st rfl rfl (q_nil rfl) (st rfl rfl (q_move rfl) (st rfl rfl (q_move rfl) (st_nil))))), ?_⟩
        refine V.e1s 14 [0] rfl rfl rfl (ap_H (N := [newCall e t]) hR (fun _ => (by repeat (first | exact Upd.here | apply Upd.there))) rfl rfl (src_raw (cs := HCall.l (newCall e t)) (by repeat (first | exact List.Mem.head _ | apply List.Mem.tail))) (by simp; omega)) ?_
        rintro _ _ ⟨R', hR', rfl⟩
        refine ⟨st rfl rfl (q_move rfl) (st_nil), ?_⟩
        refine V.qs 15 rfl rfl (q_nil rfl) ?_
        refine V.qs 16 rfl rfl (q_fa fa_61_0 rfl) ?_
        obtain ⟨a3, c3, rfl⟩ := hR'.len
        refine V.e1n 17 [] rfl rfl rfl (e_store Try.sizeOf35 rfl rfl rfl (by repeat (first | exact Upd.here | apply Upd.there)) rfl (by simp only [setAll, List.setIfInBounds_toArray, List.set_cons_succ, List.set_cons_zero, Nat.reduceAdd, Nat.zero_add] <;> rfl)) ?_
        rintro _ _ ⟨rfl, rfl⟩
        refine ⟨st_nil, ?_⟩
        refine V.fin rfl ?_
        refine ⟨(calls.length, a3, c3, R', M', calls ++ [newCall e t], mput on e.thread (calls.length : Int)), _, ?_, (by repeat (first | exact Sub.nil | refine Sub.cons rfl ?_)), (by repeat (first | exact Pick.nil | exact Take.here | apply Pick.cons | apply Take.there))⟩
        exact ⟨hR', hM', by simp, by rw [hs0, if_pos hb']⟩
      · intro hb
        have hb' : ¬ e.began = true := by simpa using hb
        have hsome : (mget on e.thread).isSome = true := by
          cases h : (mget on e.thread).isSome with
          | true => rfl
          | false => rw [h] at h1; simp at hb h1; rw [hb] at h1; cases h1
        obtain ⟨i, hi⟩ := Option.isSome_iff_exists.1 hsome
        have hib := hon _ _ hi
        have hgd : (mget on e.thread).getD 0 = ((i.toNat : Nat) : Int) := by rw [hi]; simp; omega
        have hgn : ((mget on e.thread).getD 0).toNat = i.toNat := by rw [hi]; rfl
        rw [hgd]
        refine W_skip ?_
        refine ⟨(i.toNat, va, vc, R, M, calls, on), _, ?_, (by repeat (first | exact Sub.nil | refine Sub.cons rfl ?_)), (by repeat (first | exact Pick.nil | exact Take.here | apply Pick.cons | apply Take.there))⟩
        exact ⟨hR, hM, by omega, by rw [hs0, if_neg hb', hgn]⟩
    · rintro ⟨i, a, cap, R', M', cs, on'⟩ ⟨hR', hM', hi, hs⟩
      dsimp only at hR' hM' hi hs ⊢
      obtain ⟨c, hN⟩ : ∃ c, cs[i]? = some c := ⟨_, List.getElem?_eq_getElem hi⟩
      obtain ⟨g, cap2, e1⟩ := hR'.ptr (by omega)
      simp only [Value.slice.injEq, true_and] at e1
      obtain ⟨rfl, rfl⟩ := e1
      have hfin : finF cs on' i e t = if e.fits c then (if e.over then some (cs.set i { c with to_ := t, ans := e.ans }, mdel on' e.thread) else some (cs, on')) else none := by unfold finF; rw [hN]
      refine W_seq ?_
      refine W_reg rfl ?_
      refine O_qs (q_move rfl) ?_
      refine O_qs (q_nil rfl) ?_
      refine O_qs (q_fa fa_61_0 rfl) ?_
      refine O_qs (q_load Try.isAgg35 rfl (rd_chunk (by repeat (first | exact List.Mem.head _ | apply List.Mem.tail)) rfl)) ?_
      refine O_qs (q_move rfl) ?_
      refine O_qs (q_ian Try.runUnderlying35 Try.sizeOf44 rfl rfl hi) ?_
      refine O_qs (q_assign rfl) ?_
      refine O_nil ?_
      refine W_seq ?_
      refine W_seq ?_
      refine W_draw [[], [0], [0, 1], [0, 1, 2], [], [4], [0, 1, 2, 3, 4, 5], [0, 1, 2, 3, 4, 5, 6], [0, 1, 2, 3, 4, 5, 6, 7], [0, 1, 2, 3, 4, 5, 6, 7, 8], [0, 1, 2, 3, 4, 5, 6, 7, 8, 9], [0, 1, 2, 3, 4, 5, 6, 7, 8, 9, 10], [0, 1, 2, 3, 4, 5, 6, 7], [0, 1, 2, 3, 4, 5, 6, 7, 12], [0, 1, 2, 3, 4, 5, 6, 7, 8, 9, 10, 11, 12, 13], [0, 1, 2, 3, 4, 5, 6, 7, 8, 9, 10, 11, 12, 13, 14], [0, 1, 2, 3, 4, 5, 6, 7, 8, 9, 10, 11, 12, 13, 14, 15], [0, 1, 2, 3, 4, 5, 6, 7, 8, 9, 10, 11, 12, 13, 14, 15, 16], [0, 1, 2, 3, 4, 5, 6, 7, 8, 9, 10, 11, 12, 13, 14, 15, 16, 17], [0, 1, 2, 3, 4, 5, 6, 7, 8, 9, 10, 11, 12, 13, 14, 15, 16, 17, 18], [0, 1, 2, 3, 4, 5, 6, 7, 8, 9, 10, 11, 12, 13, 14, 15, 16, 17, 18, 19], [0, 1, 2, 3, 4, 5, 6, 7, 8, 9, 10, 11, 12, 13, 14, 15, 16, 17, 18, 19, 20], [0, 1, 2, 3, 4, 5, 6, 7, 8, 9, 10, 11, 12, 13, 14, 15, 16, 17, 18, 19, 20, 21], [0, 1, 2, 3, 4, 5, 6, 7, 8, 9, 10, 11, 12, 13, 14, 15, 16, 17, 18, 19, 20], [0, 1, 2, 3, 4, 5, 6, 7, 8, 9, 10, 11, 12, 13, 14, 15, 16, 17, 18, 19, 20, 21, 22, 23], [0, 1, 2, 3, 4, 5, 6, 7, 8, 9, 10, 11, 12, 13, 14, 15, 16, 17, 18, 19, 20, 21, 22, 23, 24], [0, 1, 2, 3, 4, 5, 6, 7, 8, 9, 10, 11, 12, 13, 14, 15, 16, 17, 18, 19, 20, 21, 22, 23, 24, 25]] rfl rfl rfl ?_
      refine V.qs 0 rfl rfl (q_move rfl) ?_
      refine V.qs 1 rfl rfl (q_nil rfl) ?_
      refine V.qs 2 rfl rfl (q_fa fa_44_2 rfl) ?_
      refine V.qs 3 rfl rfl (q_loadN (vs := [.int .i64 c.op.kind, .int .u64 c.op.key, .int .u64 c.op.val, .int .i64 c.op.level]) Try.isAgg27 Try.sizeOf27 rfl (hR'.rdp (by repeat (first | exact List.Mem.head _ | apply List.Mem.tail)) hN (j0 := 2) (by show 0 + i * 11 + 2 = _; simp [layH]) rfl)) ?_
      refine V.qs 4 rfl rfl (q_fa fa_32_3 rfl) ?_
      refine V.qs 5 rfl rfl (q_loadN (vs := [_, _, _, _]) Try.isAgg27 Try.sizeOf27 rfl (rd_range (by repeat (first | exact List.Mem.head _ | apply List.Mem.tail)) rfl)) ?_
      refine V.qs 6 rfl rfl (q_bin neq_27 rfl rfl) ?_
      refine V.qs 7 rfl rfl (q_move rfl) ?_
      refine V.qs 8 rfl rfl (QY.cond0 rfl rfl rfl (fun H => q_move rfl)) ?_
      refine V.qs 9 rfl rfl (QY.cond0 rfl rfl rfl (fun H => q_nil (gvh rfl H))) ?_
      refine V.qs 10 rfl rfl (QY.cond0 rfl rfl rfl (fun H => q_fa fa_44_1 (gvh rfl H))) ?_
      refine V.qs 11 rfl rfl (QY.cond0 rfl rfl rfl (fun H => q_load Try.isAgg3 (gvh rfl H) (hR'.rd (by repeat (first | exact List.Mem.head _ | apply List.Mem.tail)) hN (j := 1) rfl (by show 0 + i * 11 + 1 = _; simp [layH])))) ?_
      refine V.qs 12 rfl rfl (QY.cond0 rfl rfl rfl (fun H => q_fa fa_32_4 rfl)) ?_
      refine V.qs 13 rfl rfl (QY.cond0 rfl rfl rfl (fun H => q_load Try.isAgg3 (gvh rfl H) (rd_chunk (by repeat (first | exact List.Mem.head _ | apply List.Mem.tail)) rfl))) ?_
      refine V.qs 14 rfl rfl (QY.cond0 rfl rfl rfl (fun H => q_neq (gvh rfl H) (gvh rfl H))) ?_
      refine V.qs 15 rfl rfl (q_or rfl rfl rfl) ?_
      refine V.qs 16 rfl rfl (q_move rfl) ?_
      refine V.qs 17 rfl rfl (QY.cond0 rfl rfl rfl (fun H => q_fa fa_32_6 rfl)) ?_
      refine V.qs 18 rfl rfl (QY.cond0 rfl rfl rfl (fun H => q_load Try.isAgg4 (gvh rfl H) (rd_chunk (by repeat (first | exact List.Mem.head _ | apply List.Mem.tail)) rfl))) ?_
      refine V.qs 19 rfl rfl (QY.cond0 rfl rfl rfl (fun H => q_not (gvh rfl H))) ?_
      refine V.qs 20 rfl rfl (QY.cond0 rfl rfl rfl (fun H => q_move (gvh rfl H))) ?_
      refine V.qs 21 rfl rfl (QY.condn rfl rfl rfl (fun H => q_fa fa_32_7 rfl)) ?_
      refine V.qs 22 rfl rfl (QY.condn rfl rfl rfl (fun H => q_loadN (vs := [_, _, _]) Try.isAgg30 Try.sizeOf30 (gvh rfl H) (rd_range (by repeat (first | exact List.Mem.head _ | apply List.Mem.tail)) rfl))) ?_
      refine V.qs 23 rfl rfl (QY.condn rfl rfl rfl (fun H => q_build rfl (bld_30 (cs := [_, _, _]) rfl))) ?_
      refine V.qs 24 rfl rfl (QY.condn rfl rfl rfl (fun H => q_bin neq_30 (gvh rfl H) (gvh rfl H))) ?_
      refine V.qs 25 rfl rfl (QY.cond0 rfl rfl rfl (fun H => q_and (gvh rfl H) (gva rfl H) rfl)) ?_
      refine V.qs 26 rfl rfl (q_or rfl rfl rfl) ?_
      refine V.fin rfl ?_
      refine W_cond rfl ?_ ?_
      · intro hc2
        have hf : ¬ e.fits c = true := by
          intro hf
          simp only [HEv.fits, Bool.and_eq_true, decide_eq_true_eq, Bool.or_eq_true] at hf
          obtain ⟨⟨f1, f2⟩, f3⟩ := hf
          rw [f1, f2] at hc2
          simp at hc2
          obtain ⟨ho, hn⟩ := hc2
          rcases f3 with f3 | f3
          · rw [ho] at f3; cases f3
          · rw [f3] at hn; simp [Ans.zero] at hn
        refine W_seq ?_
        refine W_reg rfl ?_
        refine O_qs (q_assign rfl) ?_
        refine O_nil ?_
        refine W_ret ?_
        refine res1 (c0 := []) rfl rfl (by repeat (first | exact Pick.nil | exact Take.here | apply Pick.cons | apply Take.there)) rfl ?_
        exact .inl ⟨by rw [hs, hfin, if_neg hf], rfl, rfl⟩
      · intro hc2
        have hf : e.fits c = true := by
          simp only [HEv.fits, Bool.and_eq_true, decide_eq_true_eq, Bool.or_eq_true]
          simp at hc2
          obtain ⟨⟨⟨g1, g2, g3, g4⟩, g5⟩, g6⟩ := hc2
          refine ⟨⟨aop_ext g1 g2 g3 g4, g5⟩, ?_⟩
          cases hov : e.over with
          | true => exact .inl rfl
          | false => exact .inr (by have := g6 hov; exact ans_ext this.1 this.2.1 this.2.2)
        refine W_skip ?_
        refine W_seq ?_
        refine W_seq ?_
        refine W_reg rfl ?_
        refine O_qs (q_fa fa_32_6 rfl) ?_
        refine O_qs (q_load Try.isAgg4 rfl (rd_chunk (by repeat (first | exact List.Mem.head _ | apply List.Mem.tail)) rfl)) ?_
        refine O_nil ?_
        refine W_cond rfl ?_ ?_
        · intro hd
          have ho : e.over = true := hd
          refine W_seq ?_
          refine W_draw [[], [], [], [], [3], [0, 2], [0, 2, 5], [0, 2, 5, 6], [0, 1, 2, 3, 4, 5, 6, 7], [0, 1, 2, 3, 4, 5, 6, 7, 8], [0, 1, 2, 3, 4, 5, 6, 7, 8, 9]] rfl rfl rfl ?_
          refine V.qs 0 rfl rfl (q_move rfl) ?_
          refine V.qs 1 rfl rfl (q_move rfl) ?_
          refine V.qs 2 rfl rfl (q_move rfl) ?_
          refine V.qs 3 rfl rfl (q_fa fa_32_7 rfl) ?_
          refine V.qs 4 rfl rfl (q_loadN (vs := [_, _, _]) Try.isAgg30 Try.sizeOf30 rfl (rd_range (by repeat (first | exact List.Mem.head _ | apply List.Mem.tail)) rfl)) ?_
          refine V.qs 5 rfl rfl (q_nil rfl) ?_
          refine V.qs 6 rfl rfl (q_fa fa_44_4 rfl) ?_
          refine V.e1n 7 [4, 3, 1] rfl rfl rfl (e_storeRow (vs := [.int .i64 t]) (a' := { c with to_ := t }) (j := 7) Try.sizeOf3 hR' (fun _ => (by repeat (first | exact Upd.here | apply Upd.there))) hN rfl (by show 0 + i * 11 + 7 = _; simp [layH]) rfl rfl rfl (Nat.le_of_ble_eq_true rfl)) ?_
          rintro _ _ ⟨R2, hR2, rfl, rfl⟩
          refine ⟨st rfl rfl (q_loadN (vs := [_, _, _]) Try.isAgg30 Try.sizeOf30 rfl (rd_range (by repeat (first | exact List.Mem.head _ | apply List.Mem.tail)) rfl)) (st rfl rfl (q_fa fa_32_7 rfl) (st rfl rfl (q_move rfl) (st_nil))), ?_⟩
          refine V.qs 8 rfl rfl (q_nil rfl) ?_
          refine V.qs 9 rfl rfl (q_fa fa_44_5 rfl) ?_
          have hN2 : (cs.set i { c with to_ := t })[i]? = some { c with to_ := t } := by simp [hi]
          refine V.e1n 10 [] rfl rfl rfl (e_storeRow (vs := [.int .i64 e.ans.err, .bool e.ans.done, .int .u64 e.ans.val]) (a' := { c with to_ := t, ans := e.ans }) (j := 8) Try.sizeOf30 hR2 (fun _ => (by repeat (first | exact Upd.here | apply Upd.there))) hN2 rfl (by show 0 + i * 11 + 8 = _; simp [layH]) rfl rfl rfl (Nat.le_of_ble_eq_true rfl)) ?_
          rintro _ _ ⟨R3, hR3, rfl, rfl⟩
          refine ⟨st_nil, ?_⟩
          refine V.fin rfl ?_
          refine W_draw [[], [0], [0, 1], [0, 1, 2], [], [4], [0, 1, 2, 3, 4, 5]] rfl rfl rfl ?_
          refine V.qs 0 rfl rfl (q_move rfl) ?_
          refine V.qs 1 rfl rfl (q_nil rfl) ?_
          refine V.qs 2 rfl rfl (q_fa fa_61_1 rfl) ?_
          refine V.qs 3 rfl rfl (q_load Try.isAgg59 rfl (rd_chunk (by repeat (first | exact List.Mem.head _ | apply List.Mem.tail)) rfl)) ?_
          refine V.qs 4 rfl rfl (q_fa fa_32_1 rfl) ?_
          refine V.qs 5 rfl rfl (q_load Try.isAgg3 rfl (rd_chunk (by repeat (first | exact List.Mem.head _ | apply List.Mem.tail)) rfl)) ?_
          rw [List.set_set] at hR3
          refine V.e1n 6 [] rfl rfl rfl (e_delete Try.runUnderlying59 keyInt hM' (fun _ => (by repeat (first | exact Upd.here | apply Upd.there))) rfl rfl) ?_
          rintro _ _ ⟨M3, hM3, rfl, rfl⟩
          refine ⟨st_nil, ?_⟩
          refine V.fin rfl ?_
          refine W_seq ?_
          refine W_reg rfl ?_
          refine O_qs (q_assign rfl) ?_
          refine O_nil ?_
          refine W_ret ?_
          refine res1 (c0 := [mraw mk mb (.slice (some ⟨g, 0, none⟩) cs.length cap), R3, M3]) rfl rfl (by repeat (first | exact Pick.nil | exact Take.here | apply Pick.cons | apply Take.there)) rfl ?_
          exact .inr ⟨cs.set i { c with to_ := t, ans := e.ans }, mdel on' e.thread, _, R3, M3, by rw [hs, hfin, if_pos hf, if_pos ho], hR3, hM3, rfl, rfl⟩
        · intro hd
          have ho : ¬ e.over = true := by simpa using hd
          refine W_skip ?_
          refine W_seq ?_
          refine W_reg rfl ?_
          refine O_qs (q_assign rfl) ?_
          refine O_nil ?_
          refine W_ret ?_
          refine res1 (c0 := [mraw mk mb (.slice (some ⟨g, 0, none⟩) cs.length cap), R', M']) rfl rfl (by repeat (first | exact Pick.nil | exact Take.here | apply Pick.cons | apply Take.there)) rfl ?_
          exact .inr ⟨cs, on', _, R', M', by rw [hs, hfin, if_pos hf, if_neg ho], hR', hM', rfl, rfl⟩

/-- Calls out of events. -/
def ofF : List HEv → Nat → List HCall → List (Int × Int) → Option (List HCall)
  | [], _, cs, _ => some cs
  | e :: r, t, cs, on => if e.idle then ofF r (t + 1) cs on else match seeF cs on e (t : Int) with
    | none => none
    | some (cs', on') => ofF r (t + 1) cs' on'

def OnOk (cs : List HCall) (on : List (Int × Int)) : Prop := Keys on ∧ ∀ k i, mget on k = some i → 0 ≤ i ∧ i < cs.length

theorem finF_ok {cs cs' : List HCall} {on on' : List (Int × Int)} {i : Nat} {e : HEv} {t : Int} (h : OnOk cs on) (hf : finF cs on i e t = some (cs', on')) : OnOk cs' on' ∧ cs'.length = cs.length := by
  unfold finF at hf
  split at hf
  · cases hf
  · split at hf
    · split at hf
      · simp only [Option.some.injEq, Prod.mk.injEq] at hf
        obtain ⟨rfl, rfl⟩ := hf
        refine ⟨⟨h.1.del _, fun k j hk => ?_⟩, by simp⟩
        rw [mget_del on h.1] at hk
        split at hk
        · cases hk
        · simpa using h.2 k j hk
      · simp only [Option.some.injEq, Prod.mk.injEq] at hf
        obtain ⟨rfl, rfl⟩ := hf
        exact ⟨h, rfl⟩
    · cases hf

theorem seeF_ok {cs cs' : List HCall} {on on' : List (Int × Int)} {e : HEv} {t : Int} (h : OnOk cs on) (hf : seeF cs on e t = some (cs', on')) : OnOk cs' on' ∧ cs'.length ≤ cs.length + 1 := by
  unfold seeF at hf
  split at hf
  · cases hf
  · split at hf
    · have h1 : OnOk (cs ++ [newCall e t]) (mput on e.thread (cs.length : Int)) := by
        refine ⟨h.1.put _ _, fun k j hk => ?_⟩
        rw [mget_put] at hk
        split at hk
        · simp only [Option.some.injEq] at hk
          subst hk
          simp
          omega
        · have := h.2 k j hk
          simp
          omega
      have := finF_ok h1 hf
      exact ⟨this.1, by rw [this.2]; simp⟩
    · have := finF_ok h hf
      exact ⟨this.1, by omega⟩

def layV : Lay HEv where
  enc := HEv.l
  size := 13
  pos := by decide
  len := fun _ => rfl
  one := by
    intro a u h
    simp only [HEv.l, List.mem_cons, List.not_mem_nil, or_false] at h
    rcases h with rfl | rfl | rfl | rfl | rfl | rfl | rfl | rfl | rfl | rfl | rfl | rfl | rfl <;> rfl

theorem ofF_drop {L : List HEv} {i : Nat} {e : HEv} {cs : List HCall} {on : List (Int × Int)} (h : L[i]? = some e) : ofF (L.drop i) i cs on = if e.idle then ofF (L.drop (i + 1)) (i + 1) cs on else match seeF cs on e (i : Int) with
    | none => none
    | some (cs', on') => ofF (L.drop (i + 1)) (i + 1) cs' on' := by
  have hlt : i < L.length := (List.getElem?_eq_some_iff.1 h).1
  have : L.drop i = e :: L.drop (i + 1) := by
    rw [List.drop_eq_getElem_cons hlt]
    congr 1
    exact (List.getElem?_eq_some_iff.1 h).2
  rw [this]
  rfl

theorem hist_Of (B : World) (sa : Option Addr) (n cap : Nat) (L : List HEv) (hn : L.length = n) (hb : BaseRow layV B sa L) (hlen : L.length ≤ 100000) :
    Ctr Try.prog 7 [.slice sa n cap] B []
      (fun u k => (ofF L 0 [] [] = none ∧ u = .tuple #[.slice none 0 0, .int .i64 4] ∧ k = []) ∨ (∃ cs v R, ofF L 0 [] [] = some cs ∧ Row layH 44 R v cs ∧ cs.length ≤ L.length ∧ u = .tuple #[v, .int .i64 0] ∧ k = [R])) := by
  subst hn
  refine Ctr.intro (n := 32) Try.func7 rfl Try.ntmps7 (Nat.le_of_ble_eq_true rfl) ?_
  refine W_seq ?_
  refine W_reg rfl ?_
  refine O_qs (q_assign rfl) ?_
  refine O_qs (q_assign rfl) ?_
  refine O_nil ?_
  refine W_seq ?_
  refine W_reg rfl ?_
  refine O_es (e_makeMap (ek := Value.int .i64) (ev := Value.int .i64)) ?_
  rintro _ _ ⟨mb, M, hM, rfl, rfl⟩
  refine O_qs (q_build rfl (bld_61 (cs := [_, _]) rfl)) ?_
  refine O_es (e_box (cs := #[_, _]) rfl rfl) ?_
  rintro _ _ ⟨b9, rfl, rfl⟩
  refine O_qs (q_assign rfl) ?_
  refine O_nil ?_
  refine W_seq ?_
  refine W_seq ?_
  refine W_reg rfl ?_
  refine O_qs (q_move rfl) ?_
  refine O_qs (q_len Try.runUnderlying22 rfl) ?_
  refine O_qs (q_move rfl) ?_
  refine O_nil ?_
  refine W_block ?_
  refine W_conv (ctx' := [mraw b9 mb (.slice none 0 0), M, []]) rfl ?_
  refine W_loopD (fun (d : Nat × Value × Atom × Atom × List HCall × List (Int × Int)) => [(12, .int .i64 (d.1 : Int)), (11, .int .i64 (L.length : Int)), (10, .slice sa L.length cap), (4, ptr b9), (3, .int .i64 0), (2, .slice none 0 0)]) (fun (_, v, R, M, _, _) => [mraw b9 mb v, R, M]) (fun d => L.length - d.1) (fun (i, v, R, M, cs, on) => i ≤ L.length ∧ Row layH 44 R v cs ∧ MapIs (Value.int .i64) (Value.int .i64) M mb on ∧ OnOk cs on ∧ cs.length ≤ i ∧ ofF L 0 [] [] = ofF (L.drop i) i cs on) (0, .slice none 0 0, [], M, [], []) ?_ (by repeat (first | exact Sub.nil | refine Sub.cons rfl ?_)) (by repeat (first | exact Pick.nil | exact Take.here | apply Pick.cons | apply Take.there)) ?_
  · exact ⟨Nat.zero_le _, Row.nil .., hM, ⟨List.nodup_nil, fun k i h => by cases h⟩, Nat.le_refl _, rfl⟩
  · rintro ⟨i, v, R, M, cs, on⟩ ⟨hi, hR, hM, hok, hcl, htot⟩
    dsimp only at hi hR hM hok hcl htot ⊢
    refine W_seq ?_
    refine W_reg rfl ?_
    refine O_qs (q_lss rfl rfl) ?_
    refine O_nil ?_
    refine W_seq ?_
    refine W_cond rfl ?_ ?_
    · intro hcnd
      have hlt : i < L.length := by simpa using hcnd
      have hV : L[i]? = some L[i] := List.getElem?_eq_getElem hlt
      obtain ⟨b0, o0, rfl⟩ := hb.ptr hlt
      have hstep := ofF_drop (cs := cs) (on := on) hV
      rw [← htot] at hstep
      generalize L[i] = e at hV hstep
      obtain ⟨st, th, idl, op, at_, bg, ov, an⟩ := e
      cases idl with
      | true =>
        refine W_skip ?_
        refine W_seq ?_
        refine W_block ?_
        refine W_seq ?_
        refine W_reg rfl ?_
        refine O_qs (q_move rfl) ?_
        refine O_qs (q_ian Try.runUnderlying22 Try.sizeOf32 rfl rfl hlt) ?_
        refine O_qs (q_loadN (vs := HEv.l ⟨st, th, _, op, at_, bg, ov, an⟩) Try.isAgg32 Try.sizeOf32 rfl (hb.rds hV rfl)) ?_
        refine O_es (e_alloc (cs := #[.int .i64 0, .int .i64 0, .bool false, .int .i64 0, .int .u64 0, .int .u64 0, .int .i64 0, .int .i64 0, .bool false, .bool false, .int .i64 0, .bool false, .int .u64 0]) Try.zeroValue32 rfl) ?_
        rintro _ _ ⟨b6, rfl, rfl⟩
        refine O_qs (q_assign rfl) ?_
        refine O_en (e_storeN (vs := [_, _, _, _, _, _, _, _, _, _, _, _, _]) Try.sizeOf32 rfl rfl rfl (by repeat (first | exact Upd.here | apply Upd.there)) rfl (by simp only [setAll, List.setIfInBounds_toArray, List.set_cons_succ, List.set_cons_zero, Nat.reduceAdd, Nat.zero_add] <;> rfl)) ?_
        rintro _ _ ⟨rfl, rfl⟩
        refine O_nil ?_
        refine W_seq ?_
        refine W_reg rfl ?_
        refine O_qs (q_fa fa_32_2 rfl) ?_
        refine O_qs (q_load Try.isAgg4 rfl (rd_chunk (by repeat (first | exact List.Mem.head _ | apply List.Mem.tail)) rfl)) ?_
        refine O_qs (q_not rfl) ?_
        refine O_qs (q_move rfl) ?_
        refine O_qs (QY.skip rfl rfl rfl rfl) ?_
        refine O_qs (QY.skip rfl rfl rfl rfl) ?_
        refine O_qs (QY.skip rfl rfl rfl rfl) ?_
        refine O_qs (QY.skip rfl rfl rfl rfl) ?_
        refine O_qs (QY.skip rfl rfl rfl rfl) ?_
        refine O_qs (q_pick_f rfl rfl) ?_
        refine O_nil ?_
        refine W_false rfl ?_
        refine W_skip ?_
        refine W_reg rfl ?_
        refine O_qs (q_add (c := ((i + 1 : Nat) : Int)) (w64' (by omega) (by omega)) rfl rfl) ?_
        refine O_qs (q_move rfl) ?_
        refine O_nil ?_
        refine ⟨(i + 1, v, R, M, cs, on), _, ?_, ?_, (by repeat (first | exact Sub.nil | refine Sub.cons rfl ?_)), (by repeat (first | exact Pick.nil | exact Take.here | apply Pick.cons | apply Take.there))⟩
        · exact ⟨hlt, hR, hM, hok, Nat.le_succ_of_le hcl, hstep⟩
        · dsimp only
          omega
      | false =>
        refine W_skip ?_
        refine W_seq ?_
        refine W_block ?_
        refine W_seq ?_
        refine W_reg rfl ?_
        refine O_qs (q_move rfl) ?_
        refine O_qs (q_ian Try.runUnderlying22 Try.sizeOf32 rfl rfl hlt) ?_
        refine O_qs (q_loadN (vs := HEv.l ⟨st, th, _, op, at_, bg, ov, an⟩) Try.isAgg32 Try.sizeOf32 rfl (hb.rds hV rfl)) ?_
        refine O_es (e_alloc (cs := #[.int .i64 0, .int .i64 0, .bool false, .int .i64 0, .int .u64 0, .int .u64 0, .int .i64 0, .int .i64 0, .bool false, .bool false, .int .i64 0, .bool false, .int .u64 0]) Try.zeroValue32 rfl) ?_
        rintro _ _ ⟨b6, rfl, rfl⟩
        refine O_qs (q_assign rfl) ?_
        refine O_en (e_storeN (vs := [_, _, _, _, _, _, _, _, _, _, _, _, _]) Try.sizeOf32 rfl rfl rfl (by repeat (first | exact Upd.here | apply Upd.there)) rfl (by simp only [setAll, List.setIfInBounds_toArray, List.set_cons_succ, List.set_cons_zero, Nat.reduceAdd, Nat.zero_add] <;> rfl)) ?_
        rintro _ _ ⟨rfl, rfl⟩
        refine O_nil ?_
        refine W_seq ?_
        refine W_reg rfl ?_
        refine O_qs (q_fa fa_32_2 rfl) ?_
        refine O_qs (q_load Try.isAgg4 rfl (rd_chunk (by repeat (first | exact List.Mem.head _ | apply List.Mem.tail)) rfl)) ?_
        refine O_qs (q_not rfl) ?_
        refine O_qs (q_move rfl) ?_
        refine O_qs (QY.guard rfl rfl rfl (q_move rfl)) ?_
        refine O_qs (QY.guard rfl rfl rfl (q_loadN (vs := [_, _, _, _, _, _, _, _, _, _, _, _, _]) Try.isAgg32 Try.sizeOf32 rfl (rd_range (by repeat (first | exact List.Mem.head _ | apply List.Mem.tail)) rfl))) ?_
        refine O_qs (QY.guard rfl rfl rfl (q_move rfl)) ?_
        refine O_es (EY.guard rfl rfl rfl (e_cf Try.call20 rfl (fun wd hwd => (hist_see _ b9 mb v R M cs on ⟨st, th, false, op, at_, bg, ov, an⟩ (i : Int) hR hM (by omega) hok.2)) (by repeat (first | exact Pick.nil | exact Take.here | apply Pick.cons | apply Take.there)))) ?_
        rintro _ _ ⟨_, hsee, rfl⟩
        rcases hsee with ⟨hs, rfl, rfl⟩ | ⟨cs', on', v', R', M', hs, hR', hM', rfl, rfl⟩
        · refine O_qs (QY.guard rfl rfl rfl (q_not rfl)) ?_
          refine O_qs (q_pick_t rfl rfl) ?_
          refine O_nil ?_
          refine W_true rfl ?_
          refine W_seq ?_
          refine W_reg rfl ?_
          refine O_qs (q_assign rfl) ?_
          refine O_qs (q_assign rfl) ?_
          refine O_nil ?_
          refine W_ret ?_
          refine res2 (c0 := []) rfl rfl rfl (by repeat (first | exact Pick.nil | exact Take.here | apply Pick.cons | apply Take.there)) rfl ?_
          have h0 : ofF L 0 [] [] = none := by rw [hstep]; simp [hs]
          exact .inl ⟨h0, rfl, rfl⟩
        · have hok' := seeF_ok hok hs
          refine O_qs (QY.guard rfl rfl rfl (q_not rfl)) ?_
          refine O_qs (q_pick_t rfl rfl) ?_
          refine O_nil ?_
          refine W_false rfl ?_
          refine W_skip ?_
          refine W_reg rfl ?_
          refine O_qs (q_add (c := ((i + 1 : Nat) : Int)) (w64' (by omega) (by omega)) rfl rfl) ?_
          refine O_qs (q_move rfl) ?_
          refine O_nil ?_
          refine ⟨(i + 1, v', R', M', cs', on'), _, ?_, ?_, (by repeat (first | exact Sub.nil | refine Sub.cons rfl ?_)), (by repeat (first | exact Pick.nil | exact Take.here | apply Pick.cons | apply Take.there))⟩
          · refine ⟨hlt, hR', hM', hok'.1, Nat.le_trans hok'.2 (Nat.succ_le_succ hcl), ?_⟩
            rw [hstep]
            simp [hs]
          · dsimp only
            omega
    · intro hcnd
      have hil : i = L.length := by simp at hcnd; omega
      subst hil
      refine W_exit ?_
      refine W_seq ?_
      refine W_reg rfl ?_
      refine O_qs (q_move rfl) ?_
      refine O_qs (q_nil rfl) ?_
      refine O_qs (q_fa fa_61_0 rfl) ?_
      refine O_qs (q_load Try.isAgg35 rfl (rd_chunk (by repeat (first | exact List.Mem.head _ | apply List.Mem.tail)) rfl)) ?_
      refine O_qs (q_assign rfl) ?_
      refine O_qs (q_assign rfl) ?_
      refine O_nil ?_
      refine W_ret ?_
      refine res2 (c0 := [R]) rfl rfl rfl (by repeat (first | exact Pick.nil | exact Take.here | apply Pick.cons | apply Take.there)) rfl ?_
      refine .inr ⟨cs, v, R, ?_, hR, hcl, rfl, rfl⟩
      rw [htot, List.drop_length]
      rfl
end Go.Proofs.Ytolcdmbjddekeaa
