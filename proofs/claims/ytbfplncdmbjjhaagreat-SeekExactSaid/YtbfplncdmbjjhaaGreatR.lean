/-
  Walks: the document's cells, its queue, its core.
-/
import Derived.Test.YtbfplncdmbjjhaaGreatP
import Derived.Test.YtbfplncdmbjjhaaGreatQ
set_option linter.unusedSimpArgs false
set_option linter.unusedVariables false
namespace Go.Proofs.YtbfplncdmbjjhaaGreat
open Go Go.SL

/-! ### The document's cells -/
def layO : Lay (Plc × Int) where
  enc := fun x => [.int .i64 x.1.kind, .int .i64 x.1.slot, .int .i64 x.1.part, .int .u64 x.2]
  size := 4
  pos := by decide
  len := fun _ => rfl
  one := by
    intro a u h
    simp only [List.mem_cons, List.not_mem_nil, or_false] at h
    rcases h with rfl | rfl | rfl | rfl <;> rfl

abbrev oraw (mb : Nat) (v : Value) : Atom := [(mb, .cells #[v] 29 (0, 0))]

theorem ap_O {B : World} {own : List Nat} {n : Nat} {all : Array Oper} {env : Env} {ctx : Ctx} {dst : Option Tmp} {ty : TypeId} {pos : String} {aft : Array Edge} {x y : Operand} {A : Atom} {v u : Value} {L N : List (Plc × Int)} {c' : Atom → Ctx}
    (hA : Row layO 147 A v L) (hm : ∀ A', Upd ctx A A' (c' A')) (hx : evalO env x = some v) (hy : evalO env y = some u) (hs : Src ⟨Tryz.prog, B, own, n⟩ ctx u N.length (layO.all N)) (hl : L.length + N.length ≤ 1099511627776) :
    EY ⟨Tryz.prog, B, own, n⟩ all ⟨dst, .call ⟨.builtin .append, #[x, y], #[27, 27]⟩, ty, pos, aft, none⟩ env ctx (fun v' c => ∃ A', Row layO 147 A' v' (L ++ N) ∧ c = c' A') :=
  e_append (Y := layO) (i := Tryz.t147) (bytes := 32) Tryz.underlying27 (by kernel_rfl) rfl rfl rfl rfl hA hm hx hy hs (by omega) (by simp only [maxLen]; omega)

theorem mget_hit {l : List (Plc × Int)} {p : Plc} : ∀ {i : Nat} {w : Int}, l[i]? = some (p, w) → (∀ j q u, j < i → l[j]? = some (q, u) → q ≠ p) → mget l p = some w := by
  induction l with
  | nil => intro i w h _; simp at h
  | cons x r ih =>
    obtain ⟨q, u⟩ := x
    intro i w h hne
    cases i with
    | zero =>
      simp only [List.getElem?_cons_zero, Option.some.injEq, Prod.mk.injEq] at h
      simp [mget, h.1, h.2]
    | succ i =>
      have h0 : q ≠ p := hne 0 q u (by omega) rfl
      simp only [mget]
      rw [if_neg (fun e => h0 e.symm)]
      exact ih (by simpa using h) fun j q u hj hq => hne (j + 1) q u (by omega) (by simpa using hq)
theorem mput_hit {l : List (Plc × Int)} {p : Plc} {v : Int} : ∀ {i : Nat} {w : Int}, l[i]? = some (p, w) → (∀ j q u, j < i → l[j]? = some (q, u) → q ≠ p) → mput l p v = l.set i (p, v) := by
  induction l with
  | nil => intro i w h _; simp at h
  | cons x r ih =>
    obtain ⟨q, u⟩ := x
    intro i w h hne
    cases i with
    | zero =>
      simp only [List.getElem?_cons_zero, Option.some.injEq, Prod.mk.injEq] at h
      simp [mput, h.1]
    | succ i =>
      have h0 : q ≠ p := hne 0 q u (by omega) rfl
      simp only [mput]
      rw [if_neg (fun e => h0 e.symm), List.set_cons_succ, ih (by simpa using h) fun j q u hj hq => hne (j + 1) q u (by omega) (by simpa using hq)]
theorem mget_miss {l : List (Plc × Int)} {p : Plc} (h : ∀ (j : Nat) q u, l[j]? = some (q, u) → q ≠ p) : mget l p = none := by
  refine mget_none l p fun hm => ?_
  obtain ⟨⟨q, u⟩, hx, rfl⟩ := List.mem_map.1 hm
  obtain ⟨j, hj⟩ := List.getElem?_of_mem hx
  exact h j q u hj rfl
theorem mput_miss {l : List (Plc × Int)} {p : Plc} {v : Int} : (∀ (j : Nat) q u, l[j]? = some (q, u) → q ≠ p) → mput l p v = l ++ [(p, v)] := by
  induction l with
  | nil => intro _; rfl
  | cons x r ih =>
    obtain ⟨q, u⟩ := x
    intro h
    have h0 : q ≠ p := h 0 q u rfl
    simp only [mput]
    rw [if_neg (fun e => h0 e.symm), ih fun j q u hj => h (j + 1) q u (by simpa using hj)]
    rfl

theorem plc_ext {p q : Plc} (h1 : p.kind = q.kind) (h2 : p.slot = q.slot) (h3 : p.part = q.part) : p = q := by cases p; cases q; simp_all

theorem ref04_Get (B : World) (mb : Nat) (R : Atom) (v : Value) (l : List (Plc × Int)) (p : Plc) (hR : Row layO 147 R v l) (hl : l.length ≤ 1073741824) :
    Ctr Tryz.prog 58 [ptr mb, p.v] B [oraw mb v, R] (fun u c => u = .int .u64 (mem l p) ∧ c = [oraw mb v, R]) := by
  have hlen : ∃ a cap, v = .slice a l.length cap := hR.len
  obtain ⟨a, cap, rfl⟩ := hlen
  refine Ctr.intro (n := 33) Tryz.func58 rfl Tryz.ntmps58 (Nat.le_of_ble_eq_true rfl) ?_
  refine W_seq ?_
  refine W_reg rfl ?_
  refine O_es (e_box (cs := #[_, _, _]) rfl rfl) ?_
  rintro _ _ ⟨b3, rfl, rfl⟩
  refine O_qs (q_assign rfl) ?_
  refine O_nil ?_
  refine W_seq ?_
  refine W_seq ?_
  refine W_reg rfl ?_
  refine O_qs (q_assign rfl) ?_
  refine O_nil ?_
  refine W_block ?_
  refine W_loopD (fun (i : Nat) => [(5, .int .i64 (i : Int)), (4, .int .u64 0), (3, ptr b3), (0, ptr mb)]) (fun _ => [[(b3, .cells #[.int .i64 p.kind, .int .i64 p.slot, .int .i64 p.part] 51 (0, 0))], oraw mb (.slice a l.length cap), R]) (fun i => l.length - i) (fun i => i ≤ l.length ∧ ∀ j q u, j < i → l[j]? = some (q, u) → q ≠ p) 0 ?_ (by repeat (first | exact Sub.nil | refine Sub.cons rfl ?_)) (by repeat (first | exact Pick.nil | exact Take.here | apply Pick.cons | apply Take.there)) ?_
  · exact ⟨Nat.zero_le _, fun j q u hj => by omega⟩
  · rintro i ⟨hi, hne⟩
    refine W_seq ?_
    refine W_seq ?_
    refine W_reg rfl ?_
    refine O_qs (q_move rfl) ?_
    refine O_qs (q_move rfl) ?_
    refine O_qs (q_nil rfl) ?_
    refine O_qs (q_fa fa_29_0 rfl) ?_
    refine O_qs (q_load Tryz.isAgg27 rfl (rd_chunk (by repeat (first | exact List.Mem.head _ | apply List.Mem.tail)) rfl)) ?_
    refine O_qs (q_len Tryz.runUnderlying27 rfl) ?_
    refine O_qs (q_lss rfl rfl) ?_
    refine O_nil ?_
    refine W_cond rfl ?_ ?_
    · intro hc
      have hlt : i < l.length := by simpa using hc
      obtain ⟨g, cap2, e⟩ := hR.ptr (by omega)
      simp only [Value.slice.injEq, true_and] at e
      obtain ⟨rfl, rfl⟩ := e
      obtain ⟨⟨q, w⟩, hq⟩ : ∃ x, l[i]? = some x := ⟨_, List.getElem?_eq_getElem hlt⟩
      refine W_skip ?_
      refine W_seq ?_
      refine W_block ?_
      refine W_seq ?_
      refine W_draw [[], [0], [0, 1], [0, 1, 2], [], [0, 1, 2, 3, 4], [0, 1, 2, 3, 4, 5], [0, 1, 2, 3, 4, 5, 6], [], [0, 1, 2, 3, 4, 5, 6, 7, 8]] rfl rfl rfl ?_
      refine V.qs 0 rfl rfl (q_move rfl) ?_
      refine V.qs 1 rfl rfl (q_nil rfl) ?_
      refine V.qs 2 rfl rfl (q_fa fa_29_0 rfl) ?_
      refine V.qs 3 rfl rfl (q_load Tryz.isAgg27 rfl (rd_chunk (by repeat (first | exact List.Mem.head _ | apply List.Mem.tail)) rfl)) ?_
      refine V.qs 4 rfl rfl (q_move rfl) ?_
      refine V.qs 5 rfl rfl (q_ian Tryz.runUnderlying27 Tryz.sizeOf147 rfl rfl hlt) ?_
      refine V.qs 6 rfl rfl (q_fa fa_147_0 rfl) ?_
      refine V.qs 7 rfl rfl (q_loadN (vs := [.int .i64 q.kind, .int .i64 q.slot, .int .i64 q.part]) Tryz.isAgg51 Tryz.sizeOf51 rfl (hR.rdp (by repeat (first | exact List.Mem.head _ | apply List.Mem.tail)) hq (j0 := 0) (by show 0 + i * 4 + 0 = _; simp [layO]) rfl)) ?_
      refine V.qs 8 rfl rfl (q_loadN (vs := [_, _, _]) Tryz.isAgg51 Tryz.sizeOf51 rfl (rd_range (by repeat (first | exact List.Mem.head _ | apply List.Mem.tail)) rfl)) ?_
      refine V.qs 9 rfl rfl (q_bin eql_51 rfl rfl) ?_
      refine V.fin rfl ?_
      refine W_cond rfl ?_ ?_
      · intro hd
        have he : q = p := by
          simp at hd
          exact plc_ext hd.1 hd.2.1 hd.2.2
        subst he
        refine W_seq ?_
        refine W_reg rfl ?_
        refine O_qs (q_move rfl) ?_
        refine O_qs (q_nil rfl) ?_
        refine O_qs (q_fa fa_29_0 rfl) ?_
        refine O_qs (q_load Tryz.isAgg27 rfl (rd_chunk (by repeat (first | exact List.Mem.head _ | apply List.Mem.tail)) rfl)) ?_
        refine O_qs (q_move rfl) ?_
        refine O_qs (q_ian Tryz.runUnderlying27 Tryz.sizeOf147 rfl rfl hlt) ?_
        refine O_qs (q_fa fa_147_1 rfl) ?_
        refine O_qs (q_load Tryz.isAgg23 rfl (hR.rd (by repeat (first | exact List.Mem.head _ | apply List.Mem.tail)) hq (j := 3) rfl (by show 0 + i * 4 + 3 = _; simp [layO]))) ?_
        refine O_qs (q_assign rfl) ?_
        refine O_nil ?_
        refine W_ret ?_
        refine res1 (c0 := [oraw mb _, R]) rfl rfl (by repeat (first | exact Pick.nil | exact Take.here | apply Pick.cons | apply Take.there)) rfl ?_
        refine ⟨?_, rfl⟩
        unfold mem
        rw [mget_hit hq hne]
        rfl
      · intro hd
        have he : q ≠ p := by
          intro e
          subst e
          simp at hd
        refine W_skip ?_
        refine W_reg rfl ?_
        refine O_qs (q_move rfl) ?_
        refine O_qs (q_add (w64 (by omega)) rfl rfl) ?_
        refine O_qs (q_assign rfl) ?_
        refine O_nil ?_
        refine ⟨(i + 1), _, ?_, ?_, (by repeat (first | exact Sub.nil | refine Sub.cons rfl ?_)), (by repeat (first | exact Pick.nil | exact Take.here | apply Pick.cons | apply Take.there))⟩
        · refine ⟨hlt, fun j q' u hj hq' => ?_⟩
          by_cases e : j = i
          · subst e
            rw [hq] at hq'
            simp only [Option.some.injEq, Prod.mk.injEq] at hq'
            rw [← hq'.1]
            exact he
          · exact hne j q' u (by omega) hq'
        · omega
    · intro hc
      have hil : l.length ≤ i := by simpa using hc
      refine W_exit ?_
      refine W_seq ?_
      refine W_reg rfl ?_
      refine O_qs (q_assign rfl) ?_
      refine O_nil ?_
      refine W_ret ?_
      refine res1 (c0 := [oraw mb _, R]) rfl rfl (by repeat (first | exact Pick.nil | exact Take.here | apply Pick.cons | apply Take.there)) rfl ?_
      refine ⟨?_, rfl⟩
      unfold mem
      rw [mget_miss fun j q u hj => hne j q u (by have := (List.getElem?_eq_some_iff.1 hj).1; omega) hj]
      rfl

theorem ref04_Set (B : World) (mb : Nat) (R : Atom) (v : Value) (l : List (Plc × Int)) (p : Plc) (w : Int) (hR : Row layO 147 R v l) (hl : l.length ≤ 1073741824) :
    Ctr Tryz.prog 50 [ptr mb, p.v, .int .u64 w] B [oraw mb v, R] (fun u c => ∃ R' v', Row layO 147 R' v' (mput l p w) ∧ u = .tuple #[] ∧ c = [oraw mb v', R']) := by
  have hlen : ∃ a cap, v = .slice a l.length cap := hR.len
  obtain ⟨a, cap, rfl⟩ := hlen
  refine Ctr.intro (n := 46) Tryz.func50 rfl Tryz.ntmps50 (Nat.le_of_ble_eq_true rfl) ?_
  refine W_seq ?_
  refine W_reg rfl ?_
  refine O_es (e_box (cs := #[_, _, _]) rfl rfl) ?_
  rintro _ _ ⟨b4, rfl, rfl⟩
  refine O_nil ?_
  refine W_seq ?_
  refine W_seq ?_
  refine W_reg rfl ?_
  refine O_qs (q_assign rfl) ?_
  refine O_nil ?_
  refine W_block ?_
  refine W_loopD (fun (i : Nat) => [(6, .int .i64 (i : Int)), (4, ptr b4), (2, .int .u64 w), (0, ptr mb)]) (fun _ => [[(b4, .cells #[.int .i64 p.kind, .int .i64 p.slot, .int .i64 p.part] 51 (0, 0))], oraw mb (.slice a l.length cap), R]) (fun i => l.length - i) (fun i => i ≤ l.length ∧ ∀ j q u, j < i → l[j]? = some (q, u) → q ≠ p) 0 ?_ (by repeat (first | exact Sub.nil | refine Sub.cons rfl ?_)) (by repeat (first | exact Pick.nil | exact Take.here | apply Pick.cons | apply Take.there)) ?_
  · exact ⟨Nat.zero_le _, fun j q u hj => by omega⟩
  · rintro i ⟨hi, hne⟩
    refine W_seq ?_
    refine W_seq ?_
    refine W_reg rfl ?_
    refine O_qs (q_move rfl) ?_
    refine O_qs (q_move rfl) ?_
    refine O_qs (q_nil rfl) ?_
    refine O_qs (q_fa fa_29_0 rfl) ?_
    refine O_qs (q_load Tryz.isAgg27 rfl (rd_chunk (by repeat (first | exact List.Mem.head _ | apply List.Mem.tail)) rfl)) ?_
    refine O_qs (q_len Tryz.runUnderlying27 rfl) ?_
    refine O_qs (q_lss rfl rfl) ?_
    refine O_nil ?_
    refine W_cond rfl ?_ ?_
    · intro hc
      have hlt : i < l.length := by simpa using hc
      obtain ⟨g, cap2, e⟩ := hR.ptr (by omega)
      simp only [Value.slice.injEq, true_and] at e
      obtain ⟨rfl, rfl⟩ := e
      obtain ⟨⟨q, u⟩, hq⟩ : ∃ x, l[i]? = some x := ⟨_, List.getElem?_eq_getElem hlt⟩
      refine W_skip ?_
      refine W_seq ?_
      refine W_block ?_
      refine W_seq ?_
      refine W_draw [[], [0], [0, 1], [0, 1, 2], [], [0, 1, 2, 3, 4], [0, 1, 2, 3, 4, 5], [0, 1, 2, 3, 4, 5, 6], [], [0, 1, 2, 3, 4, 5, 6, 7, 8]] rfl rfl rfl ?_
      refine V.qs 0 rfl rfl (q_move rfl) ?_
      refine V.qs 1 rfl rfl (q_nil rfl) ?_
      refine V.qs 2 rfl rfl (q_fa fa_29_0 rfl) ?_
      refine V.qs 3 rfl rfl (q_load Tryz.isAgg27 rfl (rd_chunk (by repeat (first | exact List.Mem.head _ | apply List.Mem.tail)) rfl)) ?_
      refine V.qs 4 rfl rfl (q_move rfl) ?_
      refine V.qs 5 rfl rfl (q_ian Tryz.runUnderlying27 Tryz.sizeOf147 rfl rfl hlt) ?_
      refine V.qs 6 rfl rfl (q_fa fa_147_0 rfl) ?_
      refine V.qs 7 rfl rfl (q_loadN (vs := [.int .i64 q.kind, .int .i64 q.slot, .int .i64 q.part]) Tryz.isAgg51 Tryz.sizeOf51 rfl (hR.rdp (by repeat (first | exact List.Mem.head _ | apply List.Mem.tail)) hq (j0 := 0) (by show 0 + i * 4 + 0 = _; simp [layO]) rfl)) ?_
      refine V.qs 8 rfl rfl (q_loadN (vs := [_, _, _]) Tryz.isAgg51 Tryz.sizeOf51 rfl (rd_range (by repeat (first | exact List.Mem.head _ | apply List.Mem.tail)) rfl)) ?_
      refine V.qs 9 rfl rfl (q_bin eql_51 rfl rfl) ?_
      refine V.fin rfl ?_
      refine W_cond rfl ?_ ?_
      · intro hd
        have he : q = p := by
          simp at hd
          exact plc_ext hd.1 hd.2.1 hd.2.2
        subst he
        refine W_seq ?_
        refine W_reg rfl ?_
        refine O_qs (q_move rfl) ?_
        refine O_qs (q_nil rfl) ?_
        refine O_qs (q_fa fa_29_0 rfl) ?_
        refine O_qs (q_load Tryz.isAgg27 rfl (rd_chunk (by repeat (first | exact List.Mem.head _ | apply List.Mem.tail)) rfl)) ?_
        refine O_qs (q_move rfl) ?_
        refine O_qs (q_move rfl) ?_
        refine O_qs (q_ian Tryz.runUnderlying27 Tryz.sizeOf147 rfl rfl hlt) ?_
        refine O_qs (q_fa fa_147_1 rfl) ?_
        refine O_en (e_storeRow (vs := [.int .u64 w]) (a' := (q, w)) (j := 3) Tryz.sizeOf23 hR (fun _ => (by repeat (first | exact Upd.here | apply Upd.there))) hq rfl (by show 0 + i * 4 + 3 = _; simp [layO]) rfl rfl rfl (Nat.le_of_ble_eq_true rfl)) ?_
        rintro _ _ ⟨R', hR', rfl, rfl⟩
        refine O_nil ?_
        refine W_ret ?_
        refine res0 (c0 := [oraw mb _, R']) rfl (by repeat (first | exact Pick.nil | exact Take.here | apply Pick.cons | apply Take.there)) rfl ?_
        rw [← mput_hit hq hne] at hR'
        exact ⟨R', _, hR', rfl, rfl⟩
      · intro hd
        have he : q ≠ p := by
          intro e
          subst e
          simp at hd
        refine W_skip ?_
        refine W_reg rfl ?_
        refine O_qs (q_move rfl) ?_
        refine O_qs (q_add (w64 (by omega)) rfl rfl) ?_
        refine O_qs (q_assign rfl) ?_
        refine O_nil ?_
        refine ⟨(i + 1), _, ?_, ?_, (by repeat (first | exact Sub.nil | refine Sub.cons rfl ?_)), (by repeat (first | exact Pick.nil | exact Take.here | apply Pick.cons | apply Take.there))⟩
        · refine ⟨hlt, fun j q' u hj hq' => ?_⟩
          by_cases e : j = i
          · subst e
            rw [hq] at hq'
            simp only [Option.some.injEq, Prod.mk.injEq] at hq'
            rw [← hq'.1]
            exact he
          · exact hne j q' u (by omega) hq'
        · omega
    · intro hc
      have hil : l.length ≤ i := by simpa using hc
      refine W_exit ?_
      refine W_draw [[], [], [1], [1, 2], [1, 2, 3], [], [], [5, 6], [5, 6, 7], [1, 2, 3, 4, 5, 6, 7, 8], [0, 1, 2, 3, 4, 5, 6, 7, 8, 9], [0, 1, 2, 3, 4, 5, 6, 7, 8, 9, 10], [0, 1, 2, 3, 4, 5, 6, 7, 8, 9, 10, 11]] rfl rfl rfl ?_
      refine V.qs 0 rfl rfl (q_move rfl) ?_
      refine V.qs 1 rfl rfl (q_move rfl) ?_
      refine V.qs 2 rfl rfl (q_nil rfl) ?_
      refine V.qs 3 rfl rfl (q_fa fa_29_0 rfl) ?_
      refine V.qs 4 rfl rfl (q_load Tryz.isAgg27 rfl (rd_chunk (by repeat (first | exact List.Mem.head _ | apply List.Mem.tail)) rfl)) ?_
      refine V.qs 5 rfl rfl (q_loadN (vs := [_, _, _]) Tryz.isAgg51 Tryz.sizeOf51 rfl (rd_range (by repeat (first | exact List.Mem.head _ | apply List.Mem.tail)) rfl)) ?_
      refine V.qs 6 rfl rfl (q_move rfl) ?_
      refine V.qs 7 rfl rfl (q_build rfl (bld_147 (cs := [_, _, _, _]) rfl)) ?_
      refine V.e1s 8 [4, 3, 2, 1, 0] rfl rfl rfl (e_bslice (zl := [.int .i64 0, .int .i64 0, .int .i64 0, .int .u64 0]) (cs := [_, _, _, _]) Tryz.runUnderlying27 Tryz.sizeOf147 Tryz.zeroValue147 rfl (by kernel_rfl) rfl rfl) ?_
      rintro _ _ ⟨b42, rfl, rfl⟩
      refine ⟨st rfl rfl (q_load Tryz.isAgg27 rfl (rd_chunk (by repeat (first | exact List.Mem.head _ | apply List.Mem.tail)) rfl)) (st rfl rfl (q_fa fa_29_0 rfl) (st rfl rfl (q_nil rfl) (st rfl rfl (q_move rfl) (st rfl rfl (q_move rfl) (st_nil))))), ?_⟩
      refine V.e1s 9 [0] rfl rfl rfl (ap_O (N := [(p, w)]) hR (fun _ => (by repeat (first | exact Upd.here | apply Upd.there))) rfl rfl (src_raw (by repeat (first | exact List.Mem.head _ | apply List.Mem.tail))) (by simp; omega)) ?_
      rintro _ _ ⟨R', hR', rfl⟩
      refine ⟨st rfl rfl (q_move rfl) (st_nil), ?_⟩
      refine V.qs 10 rfl rfl (q_nil rfl) ?_
      refine V.qs 11 rfl rfl (q_fa fa_29_0 rfl) ?_
      obtain ⟨a3, c3, rfl⟩ := hR'.len
      refine V.e1n 12 [] rfl rfl rfl (e_store Tryz.sizeOf27 rfl rfl rfl (by repeat (first | exact Upd.here | apply Upd.there)) rfl (by simp only [setAll, List.setIfInBounds_toArray, List.set_cons_succ, List.set_cons_zero, Nat.reduceAdd, Nat.zero_add] <;> rfl)) ?_
      rintro _ _ ⟨rfl, rfl⟩
      refine ⟨st_nil, ?_⟩
      refine V.fin rfl ?_
      refine res0 (c0 := [oraw mb _, R']) rfl (by repeat (first | exact Pick.nil | exact Take.here | apply Pick.cons | apply Take.there)) rfl ?_
      refine ⟨R', .slice a3 (l ++ [(p, w)]).length c3, ?_, rfl, rfl⟩
      rw [mput_miss fun j q u hj => hne j q u (by have := (List.getElem?_eq_some_iff.1 hj).1; omega) hj]
      exact hR'

/-! ### The document's core -/
abbrev uraw (ub : Nat) (x : Conf) (e : Int) (v : Value) (n h r : Int) : Atom :=
  [(ub, .cells #[.int .i64 x.kind, .int .i64 x.slots, .int .i64 x.buckets, .int .i64 x.height, .int .i64 x.limit, .int .i64 e, v, .int .i64 n, .int .i64 h, .int .i64 r] 45 (0, 0))]

theorem ap_F {B : World} {own : List Nat} {n : Nat} {all : Array Oper} {env : Env} {ctx : Ctx} {dst : Option Tmp} {ty : TypeId} {pos : String} {aft : Array Edge} {x y : Operand} {A : Atom} {v u : Value} {L N : List SL.Entry} {c' : Atom → Ctx}
    (hA : Row layE 244 A v L) (hm : ∀ A', Upd ctx A A' (c' A')) (hx : evalO env x = some v) (hy : evalO env y = some u) (hs : Src ⟨Tryz.prog, B, own, n⟩ ctx u N.length (layE.all N)) (hl : L.length + N.length ≤ 1099511627776) :
    EY ⟨Tryz.prog, B, own, n⟩ all ⟨dst, .call ⟨.builtin .append, #[x, y], #[41, 41]⟩, ty, pos, aft, none⟩ env ctx (fun v' c => ∃ A', Row layE 244 A' v' (L ++ N) ∧ c = c' A') :=
  e_append (Y := layE) (i := Tryz.t244) (bytes := 24) Tryz.underlying41 (by kernel_rfl) rfl rfl rfl rfl hA hm hx hy hs (by omega) (by simp only [maxLen]; omega)

end Go.Proofs.YtbfplncdmbjjhaaGreat
