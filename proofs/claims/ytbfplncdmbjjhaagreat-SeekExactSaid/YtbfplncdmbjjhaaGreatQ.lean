/-
  Walks: the queue.
-/
import Derived.Test.YtbfplncdmbjjhaaGreatW2
import Derived.Test.YtbfplncdmbjjhaaGreatRow
set_option linter.unusedSimpArgs false
set_option linter.unusedVariables false
namespace Go.Proofs.YtbfplncdmbjjhaaGreat
open Go Go.SL

def layE : Lay SL.Entry where
  enc := Entry.l
  size := 3
  pos := by decide
  len := fun _ => rfl
  one := by
    intro a u h
    simp only [Entry.l, List.mem_cons, List.not_mem_nil, or_false] at h
    rcases h with rfl | rfl | rfl <;> rfl
def Entry.zero : SL.Entry := ⟨0, 0, 0⟩

abbrev qraw (qb : Nat) (v : Value) (h n : Nat) : Atom := [(qb, .cells #[v, .int .u64 (h : Int), .int .u64 ((h + n : Nat) : Int)] 160 (0, 0))]

/-- The ring of a queue that holds L, its bound T. -/
structure QS (R : Atom) (v : Value) (ring : List SL.Entry) (k h T : Nat) (L : List SL.Entry) : Prop where
  row : Row layE 182 R v ring
  len : ring.length = 2 ^ k
  fit : L.length ≤ 2 ^ k
  bnd : h + L.length ≤ T
  kb : 2 ^ k ≤ 4 + 2 * T
  at_ : ∀ i, i < L.length → ring[(h + i) % 2 ^ k]? = L[i]?

def QueueIs (A : Atom) (qb T : Nat) (L : List SL.Entry) : Prop := ∃ R v ring k h, A = qraw qb v h L.length ++ R ∧ QS R v ring k h T L

theorem and_mask (n k : Nat) (hn : n < 18446744073709551616) (hk : 2 ^ k ≤ 9223372036854775808) : IntKind.u64.wrap ((BitVec.ofInt IntKind.u64.bits (n : Int) &&& BitVec.ofInt IntKind.u64.bits (((2 ^ k - 1 : Nat)) : Int)).toNat : Nat) = ((n % 2 ^ k : Nat) : Int) := by
  have hp : 0 < 2 ^ k := Nat.two_pow_pos k
  have hm : n % 2 ^ k < 2 ^ k := Nat.mod_lt _ hp
  have e : (BitVec.ofInt 64 (n : Int) &&& BitVec.ofInt 64 (((2 ^ k - 1 : Nat)) : Int)).toNat = n % 2 ^ k := by
    rw [BitVec.toNat_and, BitVec.toNat_ofInt, BitVec.toNat_ofInt]
    have e1 : ((n : Int) % ((2 ^ 64 : Nat) : Int)).toNat = n := by omega
    have e2 : (((2 ^ k - 1 : Nat) : Int) % ((2 ^ 64 : Nat) : Int)).toNat = 2 ^ k - 1 := by omega
    rw [e1, e2, Nat.and_two_pow_sub_one_eq_mod]
  show IntKind.u64.wrap (((BitVec.ofInt 64 (n : Int) &&& BitVec.ofInt 64 (((2 ^ k - 1 : Nat)) : Int)).toNat : Nat) : Int) = _
  rw [e]
  exact wu64 (by omega)

theorem queue_Len (B : World) (qb : Nat) (v : Value) (h n : Nat) (hb : h + n < 4611686018427387904) : Ctr Tryz.prog 111 [ptr qb] B [qraw qb v h n] (fun u c => u = .int .i64 (n : Int) ∧ c = [qraw qb v h n]) := by
  refine Ctr.intro (n := 15) Tryz.func111 rfl Tryz.ntmps111 (Nat.le_of_ble_eq_true rfl) ?_
  refine W_seq ?_
  refine W_reg rfl ?_
  refine O_qs (q_assign rfl) ?_
  refine O_nil ?_
  refine W_seq ?_
  refine W_seq ?_
  refine W_reg rfl ?_
  refine O_qs (q_move rfl) ?_
  refine O_qs (q_eqnil Tryz.runUnderlying119 rfl rfl) ?_
  refine O_nil ?_
  refine W_false rfl ?_
  refine W_skip ?_
  refine W_seq ?_
  refine W_draw [[], [0], [0, 1], [0, 1, 2], [], [4], [4, 5], [4, 5, 6], [0, 1, 2, 3, 4, 5, 6, 7], [0, 1, 2, 3, 4, 5, 6, 7, 8], [0, 1, 2, 3, 4, 5, 6, 7, 8, 9]] rfl rfl rfl ?_
  refine V.qs 0 rfl rfl (q_move rfl) ?_
  refine V.qs 1 rfl rfl (q_nil rfl) ?_
  refine V.qs 2 rfl rfl (q_fa fa_160_2 rfl) ?_
  refine V.qs 3 rfl rfl (q_load Tryz.isAgg23 rfl (rd_chunk (by repeat (first | exact List.Mem.head _ | apply List.Mem.tail)) rfl)) ?_
  refine V.qs 4 rfl rfl (q_move rfl) ?_
  refine V.qs 5 rfl rfl (q_nil rfl) ?_
  refine V.qs 6 rfl rfl (q_fa fa_160_1 rfl) ?_
  refine V.qs 7 rfl rfl (q_load Tryz.isAgg23 rfl (rd_chunk (by repeat (first | exact List.Mem.head _ | apply List.Mem.tail)) rfl)) ?_
  refine V.qs 8 rfl rfl (q_sub (c := (n : Int)) (wu64' (by omega) (by omega)) rfl rfl) ?_
  refine V.qs 9 rfl rfl (q_conv Tryz.runUnderlying23 Tryz.runUnderlying3 (w64 (by omega)) rfl) ?_
  refine V.qs 10 rfl rfl (q_assign rfl) ?_
  refine V.fin rfl ?_
  refine W_ret ?_
  refine res1 (c0 := [qraw qb v h n]) rfl rfl (by repeat (first | exact Pick.nil | exact Take.here | apply Pick.cons | apply Take.there)) rfl ?_
  exact ⟨rfl, rfl⟩

theorem queue_at (B : World) (qb g m cap k n : Nat) (x y : Value) (hm : m = 2 ^ k) (hk : m ≤ 4611686018427387904) (hn : n < 18446744073709551616) :
    Ctr Tryz.prog 113 [ptr qb, .int .u64 (n : Int)] B [[(qb, .cells #[.slice (some ⟨g, 0, none⟩) m cap, x, y] 160 (0, 0))]]
      (fun u c => u = .pointer (some ⟨g, 0 + n % 2 ^ k * 3, none⟩) ∧ c = [[(qb, .cells #[.slice (some ⟨g, 0, none⟩) m cap, x, y] 160 (0, 0))]]) := by
  have hp : 0 < 2 ^ k := Nat.two_pow_pos k
  have hlt : n % 2 ^ k < m := by rw [hm]; exact Nat.mod_lt _ hp
  refine Ctr.intro (n := 19) Tryz.func113 rfl Tryz.ntmps113 (Nat.le_of_ble_eq_true rfl) ?_
  refine W_seq ?_
  refine W_reg rfl ?_
  refine O_qs (q_assign rfl) ?_
  refine O_nil ?_
  refine W_seq ?_
  refine W_draw [[], [0], [0, 1], [0, 1, 2], [], [], [5], [5, 6], [5, 6, 7], [5, 6, 7, 8], [5, 6, 7, 8, 9], [5, 6, 7, 8, 9, 10], [4, 5, 6, 7, 8, 9, 10, 11], [0, 1, 2, 3, 4, 5, 6, 7, 8, 9, 10, 11, 12], [0, 1, 2, 3, 4, 5, 6, 7, 8, 9, 10, 11, 12, 13]] rfl rfl rfl ?_
  refine V.qs 0 rfl rfl (q_move rfl) ?_
  refine V.qs 1 rfl rfl (q_nil rfl) ?_
  refine V.qs 2 rfl rfl (q_fa fa_160_0 rfl) ?_
  refine V.qs 3 rfl rfl (q_load Tryz.isAgg158 rfl (rd_chunk (by repeat (first | exact List.Mem.head _ | apply List.Mem.tail)) rfl)) ?_
  refine V.qs 4 rfl rfl (q_move rfl) ?_
  refine V.qs 5 rfl rfl (q_move rfl) ?_
  refine V.qs 6 rfl rfl (q_nil rfl) ?_
  refine V.qs 7 rfl rfl (q_fa fa_160_0 rfl) ?_
  refine V.qs 8 rfl rfl (q_load Tryz.isAgg158 rfl (rd_chunk (by repeat (first | exact List.Mem.head _ | apply List.Mem.tail)) rfl)) ?_
  refine V.qs 9 rfl rfl (q_len Tryz.runUnderlying158 rfl) ?_
  refine V.qs 10 rfl rfl (q_sub (c := ((2 ^ k - 1 : Nat) : Int)) (w64' (by omega) (by omega)) rfl rfl) ?_
  refine V.qs 11 rfl rfl (q_conv Tryz.runUnderlying3 Tryz.runUnderlying23 (wu64 (by omega)) rfl) ?_
  refine V.qs 12 rfl rfl (q_andI (c := ((n % 2 ^ k : Nat) : Int)) (and_mask n k hn (by omega)) rfl rfl) ?_
  refine V.qs 13 rfl rfl (q_ian Tryz.runUnderlying158 Tryz.sizeOf182 rfl rfl hlt) ?_
  refine V.qs 14 rfl rfl (q_assign rfl) ?_
  refine V.fin rfl ?_
  refine W_ret ?_
  refine res1 (c0 := [[(qb, _)]]) rfl rfl (by repeat (first | exact Pick.nil | exact Take.here | apply Pick.cons | apply Take.there)) rfl ?_
  exact ⟨rfl, rfl⟩

/-- The append of entries. -/
theorem ap_E {B : World} {own : List Nat} {n : Nat} {all : Array Oper} {env : Env} {ctx : Ctx} {dst : Option Tmp} {ty : TypeId} {pos : String} {aft : Array Edge} {x y : Operand} {A : Atom} {v u : Value} {L N : List SL.Entry} {c' : Atom → Ctx}
    (hA : Row layE 182 A v L) (hm : ∀ A', Upd ctx A A' (c' A')) (hx : evalO env x = some v) (hy : evalO env y = some u) (hs : Src ⟨Tryz.prog, B, own, n⟩ ctx u N.length (layE.all N)) (hl : L.length + N.length ≤ 1099511627776) :
    EY ⟨Tryz.prog, B, own, n⟩ all ⟨dst, .call ⟨.builtin .append, #[x, y], #[158, 158]⟩, ty, pos, aft, none⟩ env ctx (fun v' c => ∃ A', Row layE 182 A' v' (L ++ N) ∧ c = c' A') :=
  e_append (Y := layE) (i := Tryz.t182) (bytes := 24) Tryz.underlying158 (by kernel_rfl) rfl rfl rfl rfl hA hm hx hy hs (by omega) (by simp only [maxLen]; omega)

theorem QS.cells {R : Atom} {v : Value} {ring : List SL.Entry} {k h T : Nat} {L : List SL.Entry} (hq : QS R v ring k h T L) : ∃ g cap, v = .slice (some ⟨g, 0, none⟩) ring.length cap :=
  hq.row.ptr (by rw [hq.len]; exact Nat.two_pow_pos k)

theorem queue_List (B : World) (qb : Nat) (R : Atom) (v : Value) (ring : List SL.Entry) (k h T : Nat) (L : List SL.Entry) (hq : QS R v ring k h T L) (hT : T ≤ 1073741824) :
    Ctr Tryz.prog 122 [ptr qb] B [qraw qb v h L.length, R] (fun u c => ∃ A, Row layE 182 A u L ∧ c = [qraw qb v h L.length, R, A]) := by
  obtain ⟨g, cap, rfl⟩ := hq.cells
  have hbnd := hq.bnd
  have hkb := hq.kb
  have hlen := hq.len
  refine Ctr.intro (n := 26) Tryz.func122 rfl Tryz.ntmps122 (Nat.le_of_ble_eq_true rfl) ?_
  refine W_seq ?_
  refine W_reg rfl ?_
  refine O_qs (q_assign rfl) ?_
  refine O_nil ?_
  refine W_seq ?_
  refine W_reg rfl ?_
  refine O_qs (q_assign rfl) ?_
  refine O_nil ?_
  refine W_seq ?_
  refine W_seq ?_
  refine W_reg rfl ?_
  refine O_qs (q_move rfl) ?_
  refine O_qs (q_cf Tryz.call111 rfl (fun wd hwd => (queue_Len _ qb _ h L.length (by omega))) (by repeat (first | exact Pick.nil | exact Take.here | apply Pick.cons | apply Take.there))) ?_
  refine O_qs (q_move rfl) ?_
  refine O_nil ?_
  refine W_block ?_
  refine W_conv (ctx' := [[], qraw qb (.slice (some ⟨g, 0, none⟩) ring.length cap) h L.length, R]) rfl ?_
  refine W_loopD (fun (i, v, _) => [(7, .int .i64 ((i : Nat) : Int)), (6, .int .i64 (L.length : Int)), (3, v), (0, ptr qb)]) (fun (_, _, A) => [A, qraw qb (.slice (some ⟨g, 0, none⟩) ring.length cap) h L.length, R]) (fun (i, _, _) => L.length - i) (fun (i, v, A) => i ≤ L.length ∧ Row layE 182 A v (L.take i)) (0, .slice none 0 0, []) ?_ (by repeat (first | exact Sub.nil | refine Sub.cons rfl ?_)) (by repeat (first | exact Pick.nil | exact Take.here | apply Pick.cons | apply Take.there)) ?_
  · exact ⟨Nat.zero_le _, Row.nil ..⟩
  · rintro ⟨i, v, A⟩ ⟨hi, hA⟩
    dsimp only at hA ⊢
    refine W_seq ?_
    refine W_reg rfl ?_
    refine O_qs (q_lss rfl rfl) ?_
    refine O_nil ?_
    refine W_seq ?_
    refine W_cond rfl ?_ ?_
    · intro hc
      have hlt : i < L.length := by simpa using hc
      have hL : L[i]? = some L[i] := List.getElem?_eq_getElem hlt
      have hr := hq.at_ i hlt
      rw [hL] at hr
      refine W_skip ?_
      refine W_seq ?_
      refine W_block ?_
      refine W_seq ?_
      refine W_reg rfl ?_
      refine O_qs (q_move rfl) ?_
      refine O_qs (q_assign rfl) ?_
      refine O_nil ?_
      refine W_reg rfl ?_
      refine O_qs (q_move rfl) ?_
      refine O_qs (q_move rfl) ?_
      refine O_qs (q_move rfl) ?_
      refine O_qs (q_nil rfl) ?_
      refine O_qs (q_fa fa_160_1 rfl) ?_
      refine O_qs (q_load Tryz.isAgg23 rfl (rd_chunk (by repeat (first | exact List.Mem.head _ | apply List.Mem.tail)) rfl)) ?_
      refine O_qs (q_move rfl) ?_
      refine O_qs (q_conv Tryz.runUnderlying3 Tryz.runUnderlying23 (wu64 (by omega)) rfl) ?_
      refine O_qs (q_add (c := ((h + i : Nat) : Int)) (wu64' (by omega) (by omega)) rfl rfl) ?_
      refine O_qs (q_cf Tryz.call113 rfl (fun wd hwd => (queue_at _ qb g ring.length cap k (h + i) _ _ hlen (by omega) (by omega))) (by repeat (first | exact Pick.nil | exact Take.here | apply Pick.cons | apply Take.there))) ?_
      refine O_qs (q_nil rfl) ?_
      refine O_qs (q_loadN (vs := [.int .i64 L[i].slot, .int .i64 L[i].retired, .int .i64 L[i].id]) Tryz.isAgg182 Tryz.sizeOf182 rfl (hq.row.rds (by repeat (first | exact List.Mem.head _ | apply List.Mem.tail)) hr (Nat.zero_add _))) ?_
      refine O_es (e_bslice (zl := [.int .i64 0, .int .i64 0, .int .i64 0]) (cs := [_, _, _]) Tryz.runUnderlying158 Tryz.sizeOf182 Tryz.zeroValue182 rfl (by kernel_rfl) rfl rfl) ?_
      rintro _ _ ⟨b22, rfl, rfl⟩
      refine O_es (ap_E (N := [L[i]]) hA (fun _ => (by repeat (first | exact Upd.here | apply Upd.there))) rfl rfl (src_raw (by repeat (first | exact List.Mem.head _ | apply List.Mem.tail))) (by simp; omega)) ?_
      rintro _ _ ⟨A', hA', rfl⟩
      refine O_qs (q_assign rfl) ?_
      refine O_nil ?_
      refine W_reg rfl ?_
      refine O_qs (q_add (w64 (by omega)) rfl rfl) ?_
      refine O_qs (q_move rfl) ?_
      refine O_nil ?_
      refine ⟨(i + 1, _, A'), _, ?_, ?_, (by repeat (first | exact Sub.nil | refine Sub.cons rfl ?_)), (by repeat (first | exact Pick.nil | exact Take.here | apply Pick.cons | apply Take.there))⟩
      · refine ⟨hlt, ?_⟩
        rw [List.take_add_one, hL]
        exact hA'
      · dsimp only
        omega
    · intro hc
      refine W_exit ?_
      refine W_seq ?_
      refine W_reg rfl ?_
      refine O_qs (q_move rfl) ?_
      refine O_qs (q_assign rfl) ?_
      refine O_nil ?_
      refine W_ret ?_
      refine res1 (c0 := [qraw qb (.slice (some ⟨g, 0, none⟩) ring.length cap) h L.length, R, A]) rfl rfl (by repeat (first | exact Pick.nil | exact Take.here | apply Pick.cons | apply Take.there)) rfl ?_
      have hiL : L.length ≤ i := by simpa using hc
      rw [List.take_of_length_le hiL] at hA
      exact ⟨A, hA, rfl⟩

theorem queue_grow (B : World) (qb : Nat) (R : Atom) (v : Value) (ring : List SL.Entry) (k h T : Nat) (L : List SL.Entry) (hq : QS R v ring k h T L) (hfull : L.length = 2 ^ k) (hT : T ≤ 1073741824) :
    Ctr Tryz.prog 112 [ptr qb] B [qraw qb v h L.length, R] (fun u c => ∃ R' v' ring', QS R' v' ring' (k + 1) 0 T L ∧ u = .tuple #[] ∧ c = [qraw qb v' 0 L.length, R']) := by
  have hrow := hq.row
  have hlen := hq.len
  have hbnd := hq.bnd
  obtain ⟨g, cap, rfl⟩ := hq.cells
  refine Ctr.intro (n := 29) Tryz.func112 rfl Tryz.ntmps112 (Nat.le_of_ble_eq_true rfl) ?_
  refine W_seq ?_
  refine W_reg rfl ?_
  refine O_qs (q_move rfl) ?_
  refine O_es (e_cf Tryz.call122 rfl (fun wd hwd => (queue_List _ qb R _ ring k h T L hq hT)) (by repeat (first | exact Pick.nil | exact Take.here | apply Pick.cons | apply Take.there))) ?_
  rintro _ _ ⟨_, ⟨A, hA, rfl⟩, rfl⟩
  refine O_qs (q_assign rfl) ?_
  refine O_nil ?_
  refine W_seq ?_
  refine W_reg rfl ?_
  refine O_qs (q_move rfl) ?_
  refine O_qs (q_nil rfl) ?_
  refine O_qs (q_fa fa_160_0 rfl) ?_
  refine O_qs (q_load Tryz.isAgg158 rfl (rd_chunk (by repeat (first | exact List.Mem.head _ | apply List.Mem.tail)) rfl)) ?_
  refine O_qs (q_len Tryz.runUnderlying158 rfl) ?_
  obtain ⟨a2, c2, rfl⟩ := hA.len
  refine O_qs (q_shl (c := ((2 * ring.length : Nat) : Int)) (by decide) (w64' (by show (ring.length : Int) * 2 ^ 1 = _; omega) (by omega)) rfl rfl) ?_
  refine O_es (e_makeSlice (Y := layE) (i := Tryz.t182) (n := 2 * ring.length) (a0 := Entry.zero) Tryz.underlying158 (by kernel_rfl) rfl rfl rfl rfl rfl (by show 24 * _ ≤ _; omega) (by simp only [maxLen]; omega)) ?_
  rintro _ _ ⟨g2, Z, hZ, rfl, rfl⟩
  refine O_qs (q_assign rfl) ?_
  refine O_nil ?_
  refine W_seq ?_
  refine W_reg rfl ?_
  refine O_qs (q_move rfl) ?_
  refine O_qs (q_move rfl) ?_
  refine O_es (e_copy (Y := layE) (i := Tryz.t182) Tryz.underlying158 (by kernel_rfl) rfl hZ (fun _ => (by repeat (first | exact Upd.here | apply Upd.there))) rfl rfl (hA.src (by repeat (first | exact List.Mem.head _ | apply List.Mem.tail))) (by simp; omega)) ?_
  rintro _ _ ⟨Z', hZ', rfl, rfl⟩
  refine O_nil ?_
  refine W_reg rfl ?_
  refine O_qs (q_move rfl) ?_
  refine O_qs (q_move rfl) ?_
  refine O_qs (q_move rfl) ?_
  refine O_qs (q_move rfl) ?_
  refine O_qs (q_move rfl) ?_
  refine O_qs (q_len Tryz.runUnderlying158 rfl) ?_
  refine O_qs (q_conv Tryz.runUnderlying3 Tryz.runUnderlying23 (wu64 (by omega)) rfl) ?_
  refine O_qs (q_nil rfl) ?_
  refine O_qs (q_fa fa_160_0 rfl) ?_
  refine O_en (e_store Tryz.sizeOf158 rfl rfl rfl (by repeat (first | exact Upd.here | apply Upd.there)) rfl (by simp only [setAll, List.setIfInBounds_toArray, List.set_cons_succ, List.set_cons_zero, Nat.reduceAdd, Nat.zero_add] <;> rfl)) ?_
  rintro _ _ ⟨rfl, rfl⟩
  refine O_qs (q_nil rfl) ?_
  refine O_qs (q_fa fa_160_1 rfl) ?_
  refine O_en (e_store Tryz.sizeOf23 rfl rfl rfl (by repeat (first | exact Upd.here | apply Upd.there)) rfl (by simp only [setAll, List.setIfInBounds_toArray, List.set_cons_succ, List.set_cons_zero, Nat.reduceAdd, Nat.zero_add] <;> rfl)) ?_
  rintro _ _ ⟨rfl, rfl⟩
  refine O_qs (q_nil rfl) ?_
  refine O_qs (q_fa fa_160_2 rfl) ?_
  refine O_en (e_store Tryz.sizeOf23 rfl rfl rfl (by repeat (first | exact Upd.here | apply Upd.there)) rfl (by simp only [setAll, List.setIfInBounds_toArray, List.set_cons_succ, List.set_cons_zero, Nat.reduceAdd, Nat.zero_add] <;> rfl)) ?_
  rintro _ _ ⟨rfl, rfl⟩
  refine O_nil ?_
  refine res0 (c0 := [[(qb, _)], Z']) rfl (by repeat (first | exact Pick.nil | exact Take.here | apply Pick.cons | apply Take.there)) rfl ?_
  refine ⟨Z', _, _, ⟨hZ', ?_, ?_, ?_, ?_, ?_⟩, rfl, by simp [qraw]⟩
  · simp [Nat.pow_succ]; omega
  · rw [Nat.pow_succ]; omega
  · omega
  · rw [Nat.pow_succ]; omega
  · intro i hi
    rw [Nat.zero_add, Nat.mod_eq_of_lt (by rw [Nat.pow_succ]; omega), List.getElem?_append_left hi]

theorem QS.push {R R2 : Atom} {v : Value} {ring : List SL.Entry} {k h T : Nat} {L : List SL.Entry} {e : SL.Entry} (hq : QS R v ring k h T L) (hlt : L.length < 2 ^ k) (h2 : Row layE 182 R2 v (ring.set ((h + L.length) % 2 ^ k) e)) :
    QS R2 v (ring.set ((h + L.length) % 2 ^ k) e) k h (T + 1) (L ++ [e]) := by
  have hp : 0 < 2 ^ k := Nat.two_pow_pos k
  have hb := hq.bnd
  have hkb := hq.kb
  refine ⟨h2, by rw [List.length_set]; exact hq.len, by simp; omega, by simp; omega, by omega, fun i hi => ?_⟩
  have hm : (h + L.length) % 2 ^ k < ring.length := by rw [hq.len]; exact Nat.mod_lt _ hp
  simp only [List.length_append, List.length_cons, List.length_nil] at hi
  by_cases e0 : i = L.length
  · subst e0
    rw [List.getElem?_set, if_pos rfl, if_pos hm, List.getElem?_append_right (Nat.le_refl _)]
    simp
  · have hil : i < L.length := by omega
    rw [List.getElem?_set, if_neg, hq.at_ i hil, List.getElem?_append_left hil]
    intro heq
    have := Nat.sub_mod_eq_zero_of_mod_eq heq
    rw [show h + L.length - (h + i) = L.length - i by omega, Nat.mod_eq_of_lt (by omega)] at this
    omega

theorem QS.mono {R : Atom} {v : Value} {ring : List SL.Entry} {k h T T' : Nat} {L : List SL.Entry} (hq : QS R v ring k h T L) (hT : T ≤ T') : QS R v ring k h T' L :=
  ⟨hq.row, hq.len, hq.fit, by have := hq.bnd; omega, by have := hq.kb; omega, hq.at_⟩

theorem queue_Push (B : World) (qb : Nat) (R : Atom) (v : Value) (ring : List SL.Entry) (k h T : Nat) (L : List SL.Entry) (S : Atom) (u : Value) (N : List SL.Entry) (hq : QS R v ring k h T L) (hS : Row layE 182 S u N) (hT : T + N.length ≤ 1073741824) :
    Ctr Tryz.prog 94 [ptr qb, u] B [qraw qb v h L.length, R, S] (fun r c => ∃ R' v' ring' k' h', QS R' v' ring' k' h' (T + N.length) (L ++ N) ∧ r = .int .i64 0 ∧ c = [qraw qb v' h' (L ++ N).length, R', S]) := by
  obtain ⟨ua, uc, rfl⟩ := hS.len
  refine Ctr.intro (n := 41) Tryz.func94 rfl Tryz.ntmps94 (Nat.le_of_ble_eq_true rfl) ?_
  refine W_seq ?_
  refine W_reg rfl ?_
  refine O_qs (q_assign rfl) ?_
  refine O_nil ?_
  refine W_seq ?_
  refine W_seq ?_
  refine W_reg rfl ?_
  refine O_qs (q_move rfl) ?_
  refine O_qs (q_eqnil Tryz.runUnderlying119 rfl rfl) ?_
  refine O_nil ?_
  refine W_false rfl ?_
  refine W_skip ?_
  refine W_seq ?_
  refine W_seq ?_
  refine W_reg rfl ?_
  refine O_qs (q_move rfl) ?_
  refine O_qs (q_len Tryz.runUnderlying158 rfl) ?_
  refine O_qs (q_move rfl) ?_
  refine O_nil ?_
  refine W_block ?_
  refine W_loopD (fun (d : Nat × Atom × Value × List SL.Entry × Nat × Nat) => [(11, .int .i64 ((d.1 : Nat) : Int)), (10, .int .i64 (N.length : Int)), (9, .slice ua N.length uc), (0, ptr qb)]) (fun (i, R, v, _, _, h) => [qraw qb v h (L.length + i), R, S]) (fun d => N.length - d.1) (fun (i, R, v, ring, k, h) => i ≤ N.length ∧ QS R v ring k h (T + i) (L ++ N.take i)) (0, R, v, ring, k, h) ?_ (by repeat (first | exact Sub.nil | refine Sub.cons rfl ?_)) (by repeat (first | exact Pick.nil | exact Take.here | apply Pick.cons | apply Take.there)) ?_
  · refine ⟨Nat.zero_le _, ?_⟩
    simpa using hq
  · rintro ⟨i, R, v, ring, k, h⟩ ⟨hi, hq⟩
    dsimp only at hq ⊢
    refine W_seq ?_
    refine W_reg rfl ?_
    refine O_qs (q_lss rfl rfl) ?_
    refine O_nil ?_
    refine W_seq ?_
    refine W_cond rfl ?_ ?_
    · intro hc
      have hlt : i < N.length := by simpa using hc
      have hN : N[i]? = some N[i] := List.getElem?_eq_getElem hlt
      obtain ⟨g2, cap2, e⟩ := hS.ptr (by omega)
      simp only [Value.slice.injEq, true_and] at e
      obtain ⟨rfl, rfl⟩ := e
      obtain ⟨g, cap, rfl⟩ := hq.cells
      have hbnd := hq.bnd
      have hkb := hq.kb
      have hlen := hq.len
      have hfit := hq.fit
      have hLl : L.length + i = (L ++ N.take i).length := by simp; omega
      rw [hLl]
      generalize hL' : L ++ N.take i = L' at *
      refine W_skip ?_
      refine W_seq ?_
      refine W_block ?_
      refine W_seq ?_
      refine W_reg rfl ?_
      refine O_qs (q_ian Tryz.runUnderlying158 Tryz.sizeOf182 rfl rfl hlt) ?_
      refine O_qs (q_loadN (vs := [.int .i64 N[i].slot, .int .i64 N[i].retired, .int .i64 N[i].id]) Tryz.isAgg182 Tryz.sizeOf182 rfl (hS.rds (by repeat (first | exact List.Mem.head _ | apply List.Mem.tail)) hN (Nat.zero_add _))) ?_
      refine O_es (e_alloc (cs := #[.int .i64 0, .int .i64 0, .int .i64 0]) Tryz.zeroValue182 rfl) ?_
      rintro _ _ ⟨b6, rfl, rfl⟩
      refine O_en (e_storeN (vs := [_, _, _]) Tryz.sizeOf182 rfl rfl rfl (by repeat (first | exact Upd.here | apply Upd.there)) rfl (by simp only [setAll, List.setIfInBounds_toArray, List.set_cons_succ, List.set_cons_zero, Nat.reduceAdd, Nat.zero_add] <;> rfl)) ?_
      rintro _ _ ⟨rfl, rfl⟩
      refine O_nil ?_
      refine W_seq ?_
      refine W_seq ?_
      refine W_draw [[], [0], [], [2], [2, 3], [2, 3, 4], [2, 3, 4, 5], [0, 1, 2, 3, 4, 5, 6]] rfl rfl rfl ?_
      refine V.qs 0 rfl rfl (q_move rfl) ?_
      refine V.qs 2 rfl rfl (q_move rfl) ?_
      refine V.qs 3 rfl rfl (q_nil rfl) ?_
      refine V.qs 4 rfl rfl (q_fa fa_160_0 rfl) ?_
      refine V.qs 5 rfl rfl (q_load Tryz.isAgg158 rfl (rd_chunk (by repeat (first | exact List.Mem.head _ | apply List.Mem.tail)) rfl)) ?_
      refine V.qs 6 rfl rfl (q_len Tryz.runUnderlying158 rfl) ?_
      refine V.qs 1 rfl rfl (q_cf Tryz.call111 rfl (fun wd hwd => (queue_Len _ qb _ h L'.length (by omega))) (by repeat (first | exact Pick.nil | exact Take.here | apply Pick.cons | apply Take.there))) ?_
      refine V.qs 7 rfl rfl (q_eql rfl rfl) ?_
      refine V.fin rfl ?_
      refine W_cut (fun (d : Nat × Nat × Atom × List SL.Entry × Nat × Nat) => [(6, ptr b6), (11, .int .i64 (i : Int)), (10, .int .i64 (N.length : Int)), (9, .slice (some ⟨g2, 0, none⟩) N.length uc), (0, ptr qb)]) (fun (g, cap, R, ring, k, h) => [[(b6, .cells #[.int .i64 N[i].slot, .int .i64 N[i].retired, .int .i64 N[i].id] 182 (0, 0))], qraw qb (.slice (some ⟨g, 0, none⟩) ring.length cap) h L'.length, R, S]) (fun (g, cap, R, ring, k, h) => QS R (.slice (some ⟨g, 0, none⟩) ring.length cap) ring k h (T + i) L' ∧ L'.length < 2 ^ k) ?_ ?_
      · refine W_cond rfl ?_ ?_
        · intro hc2
          have hfull : L'.length = ring.length := by simp at hc2; omega
          have hpp := Nat.two_pow_pos k
          refine W_reg rfl ?_
          refine O_qs (q_move rfl) ?_
          refine O_es (e_cf Tryz.call112 rfl (fun wd hwd => (queue_grow _ qb R _ ring k h (T + i) L' hq (by omega) (by omega))) (by repeat (first | exact Pick.nil | exact Take.here | apply Pick.cons | apply Take.there))) ?_
          rintro _ _ ⟨_, ⟨R', v', ring', hq', rfl, rfl⟩, rfl⟩
          refine O_nil ?_
          obtain ⟨g', cap', rfl⟩ := hq'.cells
          refine ⟨(g', cap', R', ring', k + 1, 0), _, ?_, (by repeat (first | exact Sub.nil | refine Sub.cons rfl ?_)), (by repeat (first | exact Pick.nil | exact Take.here | apply Pick.cons | apply Take.there))⟩
          refine ⟨hq', ?_⟩
          show L'.length < 2 ^ (k + 1)
          rw [Nat.pow_succ]
          omega
        · intro hc2
          have hfull : ¬ L'.length = ring.length := by simp at hc2; omega
          refine W_skip ?_
          refine ⟨(g, cap, R, ring, k, h), _, ?_, (by repeat (first | exact Sub.nil | refine Sub.cons rfl ?_)), (by repeat (first | exact Pick.nil | exact Take.here | apply Pick.cons | apply Take.there))⟩
          exact ⟨hq, by omega⟩
      · rintro ⟨g, cap, R, ring, k, h⟩ ⟨hq, hroom⟩
        dsimp only at hq ⊢
        have hbnd := hq.bnd
        have hkb := hq.kb
        have hlen := hq.len
        have hidx : (h + L'.length) % 2 ^ k < ring.length := by rw [hlen]; exact Nat.mod_lt _ (Nat.two_pow_pos k)
        refine W_seq ?_
        refine W_draw [[], [], [1], [1, 2], [1, 2, 3], [0, 1, 2, 3, 4], [], [0, 1, 2, 3, 4, 5, 6], [0, 1, 2, 3, 4, 5, 6, 7]] rfl rfl rfl ?_
        refine V.qs 0 rfl rfl (q_move rfl) ?_
        refine V.qs 1 rfl rfl (q_move rfl) ?_
        refine V.qs 2 rfl rfl (q_nil rfl) ?_
        refine V.qs 3 rfl rfl (q_fa fa_160_2 rfl) ?_
        refine V.qs 4 rfl rfl (q_load Tryz.isAgg23 rfl (rd_chunk (by repeat (first | exact List.Mem.head _ | apply List.Mem.tail)) rfl)) ?_
        refine V.qs 6 rfl rfl (q_loadN (vs := [_, _, _]) Tryz.isAgg182 Tryz.sizeOf182 rfl (rd_range (by repeat (first | exact List.Mem.head _ | apply List.Mem.tail)) rfl)) ?_
        refine V.qs 5 rfl rfl (q_cf Tryz.call113 rfl (fun wd hwd => (queue_at _ qb g ring.length cap k (h + L'.length) _ _ hlen (by omega) (by omega))) (by repeat (first | exact Pick.nil | exact Take.here | apply Pick.cons | apply Take.there))) ?_
        refine V.qs 7 rfl rfl (q_nil rfl) ?_
        refine V.e1n 8 [] rfl rfl rfl (e_storeRow (vs := [.int .i64 N[i].slot, .int .i64 N[i].retired, .int .i64 N[i].id]) (a' := N[i]) (j := 0) Tryz.sizeOf182 hq.row (fun _ => (by repeat (first | exact Upd.here | apply Upd.there))) (List.getElem?_eq_getElem hidx) rfl (Nat.zero_add _) rfl rfl rfl (Nat.le_of_ble_eq_true rfl)) ?_
        rintro _ _ ⟨R2, hR2, rfl, rfl⟩
        refine ⟨st_nil, ?_⟩
        refine V.fin rfl ?_
        refine W_reg rfl ?_
        refine O_qs (q_move rfl) ?_
        refine O_qs (q_nil rfl) ?_
        refine O_qs (q_fa fa_160_2 rfl) ?_
        refine O_qs (q_load Tryz.isAgg23 rfl (rd_chunk (by repeat (first | exact List.Mem.head _ | apply List.Mem.tail)) rfl)) ?_
        refine O_qs (q_add (c := ((h + (L.length + (i + 1)) : Nat) : Int)) (wu64' (by omega) (by omega)) rfl rfl) ?_
        refine O_qs (q_nil rfl) ?_
        refine O_qs (q_fa fa_160_2 rfl) ?_
        refine O_en (e_store Tryz.sizeOf23 rfl rfl rfl (by repeat (first | exact Upd.here | apply Upd.there)) rfl (by simp only [setAll, List.setIfInBounds_toArray, List.set_cons_succ, List.set_cons_zero, Nat.reduceAdd, Nat.zero_add] <;> rfl)) ?_
        rintro _ _ ⟨rfl, rfl⟩
        refine O_nil ?_
        refine W_reg rfl ?_
        refine O_qs (q_add (c := ((i + 1 : Nat) : Int)) (w64' (by omega) (by omega)) rfl rfl) ?_
        refine O_qs (q_move rfl) ?_
        refine O_nil ?_
        have hnext : L ++ N.take (i + 1) = L' ++ [N[i]] := by rw [List.take_add_one, hN, ← hL']; simp
        refine ⟨(i + 1, R2, .slice (some ⟨g, 0, none⟩) ring.length cap, ring.set ((h + L'.length) % 2 ^ k) N[i], k, h), _, ?_, ?_, (by repeat (first | exact Sub.nil | refine Sub.cons rfl ?_)), (by repeat (first | exact Pick.nil | exact Take.here | apply Pick.cons | apply Take.there))⟩
        · refine ⟨hlt, ?_⟩
          rw [hnext]
          have := hq.push hroom hR2
          rwa [Nat.add_assoc] at this
        · dsimp only
          omega
    · intro hc
      refine W_exit ?_
      refine W_seq ?_
      refine W_reg rfl ?_
      refine O_qs (q_assign rfl) ?_
      refine O_nil ?_
      refine W_ret ?_
      have hiL : N.length ≤ i := by simpa using hc
      have hie : i = N.length := by omega
      subst hie
      rw [List.take_length] at hq
      refine res1 (c0 := [qraw qb v h (L.length + N.length), R, S]) rfl rfl (by repeat (first | exact Pick.nil | exact Take.here | apply Pick.cons | apply Take.there)) rfl ?_
      exact ⟨R, v, ring, k, h, hq, rfl, by rw [List.length_append]⟩

theorem queue_Push_nil (B : World) (qb : Nat) (R : Atom) (v : Value) (ring : List SL.Entry) (k h T : Nat) (L : List SL.Entry) (hq : QS R v ring k h T L) (hT : T ≤ 1073741824) :
    Ctr Tryz.prog 94 [ptr qb, .slice none 0 0] B [qraw qb v h L.length, R] (fun r c => ∃ R' v' ring' k' h', QS R' v' ring' k' h' T L ∧ r = .int .i64 0 ∧ c = [qraw qb v' h' L.length, R', []]) := by
  refine Ctr.conv (pre' := [qraw qb v h L.length, R, []]) (by simp) ((queue_Push B qb R v ring k h T L [] _ [] hq (Row.nil ..) (by simpa using hT)).mono ?_)
  intro r c hrc
  simpa using hrc

theorem queue_New (B : World) : Ctr Tryz.prog 60 [.slice none 0 0] B [] (fun u c => ∃ qb R v ring k h, QS R v ring k h 0 [] ∧ u = ptr qb ∧ c = [qraw qb v h 0, R]) := by
  refine Ctr.intro (n := 11) Tryz.func60 rfl Tryz.ntmps60 (Nat.le_of_ble_eq_true rfl) ?_
  refine W_seq ?_
  refine W_reg rfl ?_
  refine O_qs (q_assign rfl) ?_
  refine O_nil ?_
  refine W_seq ?_
  refine W_reg rfl ?_
  refine O_es (e_makeSlice (Y := layE) (i := Tryz.t182) (n := 4) (a0 := Entry.zero) Tryz.underlying158 (by kernel_rfl) rfl rfl rfl rfl rfl (by show 24 * _ ≤ _; omega) (by simp only [maxLen]; omega)) ?_
  rintro _ _ ⟨g, Z, hZ, rfl, rfl⟩
  refine O_qs (q_build rfl (bld_160 (cs := [_, _, _]) rfl)) ?_
  refine O_es (e_box (cs := #[_, _, _]) rfl rfl) ?_
  rintro _ _ ⟨b6, rfl, rfl⟩
  refine O_qs (q_assign rfl) ?_
  refine O_nil ?_
  refine W_seq ?_
  refine W_reg rfl ?_
  refine O_qs (q_move rfl) ?_
  refine O_qs (q_move rfl) ?_
  have hq : QS Z (.slice (some ⟨g, 0, none⟩) 4 4) (List.replicate 4 Entry.zero) 2 0 0 [] := ⟨hZ, by simp, by simp, by simp, by simp, fun i hi => by simp at hi⟩
  refine O_es (e_cf Tryz.call94 rfl (fun wd hwd => (queue_Push_nil _ b6 Z _ _ 2 0 0 [] hq (by omega))) (by repeat (first | exact Pick.nil | exact Take.here | apply Pick.cons | apply Take.there))) ?_
  rintro _ _ ⟨_, ⟨R, v, ring, k, h, hq', rfl, rfl⟩, rfl⟩
  refine O_nil ?_
  refine W_seq ?_
  refine W_reg rfl ?_
  refine O_qs (q_move rfl) ?_
  refine O_qs (q_assign rfl) ?_
  refine O_nil ?_
  refine W_ret ?_
  refine res1 (c0 := [qraw b6 v h 0, R]) rfl rfl (by repeat (first | exact Pick.nil | exact Take.here | apply Pick.cons | apply Take.there)) rfl ?_
  exact ⟨b6, R, v, ring, k, h, hq', rfl, rfl⟩
end Go.Proofs.YtbfplncdmbjjhaaGreat
