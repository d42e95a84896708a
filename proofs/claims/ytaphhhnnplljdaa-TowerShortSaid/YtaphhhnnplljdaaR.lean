/-
  Walks: the document's cells, its queue, its core.
-/
import Derived.Test.YtaphhhnnplljdaaP
import Derived.Test.YtaphhhnnplljdaaQ
set_option linter.unusedSimpArgs false
set_option linter.unusedVariables false
namespace Go.Proofs.Ytaphhhnnplljdaa
open Go Go.SL

theorem ref03_Check (B : World) (x : Conf) : Ctr Try.prog 9 [x.v] B [] (fun u c => u = .int .i64 x.err ∧ c = []) := by
  refine Ctr.intro (n := 75) Try.func9 rfl Try.ntmps9 (Nat.le_of_ble_eq_true rfl) ?_
  refine W_seq ?_
  refine W_reg rfl ?_
  refine O_es (e_box (cs := #[_, _, _, _, _]) rfl rfl) ?_
  rintro _ _ ⟨b1, rfl, rfl⟩
  refine O_qs (q_assign rfl) ?_
  refine O_nil ?_
  refine W_seq ?_
  refine W_seq ?_
  refine W_reg rfl ?_
  refine O_qs (q_fa fa_23_0 rfl) ?_
  refine O_qs (q_load Try.isAgg3 rfl (rd_chunk (by repeat (first | exact List.Mem.head _ | apply List.Mem.tail)) rfl)) ?_
  refine O_qs (q_lss rfl rfl) ?_
  refine O_qs (q_move rfl) ?_
  refine O_qs (QY.cond0 rfl rfl rfl (fun H => q_fa fa_23_0 rfl)) ?_
  refine O_qs (QY.cond0 rfl rfl rfl (fun H => q_load Try.isAgg3 (gvh rfl H) (rd_chunk (by repeat (first | exact List.Mem.head _ | apply List.Mem.tail)) rfl))) ?_
  refine O_qs (QY.cond0 rfl rfl rfl (fun H => q_gtr (gvh rfl H) rfl)) ?_
  refine O_qs (q_or rfl rfl rfl) ?_
  refine O_nil ?_
  refine W_cond rfl ?_ ?_
  · intro h
    refine W_seq ?_
    refine W_reg rfl ?_
    refine O_qs (q_assign rfl) ?_
    refine O_nil ?_
    refine W_ret ?_
    refine res1 (c0 := []) rfl rfl (by repeat (first | exact Pick.nil | exact Take.here | apply Pick.cons | apply Take.there)) rfl ?_
    refine ⟨?_, rfl⟩
    have : ¬ x.kindOk := by unfold Conf.kindOk; simp at h; omega
    simp [Conf.err, this]
  · intro h
    have hk : x.kindOk := by unfold Conf.kindOk; simp at h; omega
    have hk' := hk
    unfold Conf.kindOk at hk'
    refine W_skip ?_
    refine W_seq ?_
    refine W_seq ?_
    refine W_reg rfl ?_
    refine O_qs (q_fa fa_23_1 rfl) ?_
    refine O_qs (q_load Try.isAgg3 rfl (rd_chunk (by repeat (first | exact List.Mem.head _ | apply List.Mem.tail)) rfl)) ?_
    refine O_qs (q_lss rfl rfl) ?_
    refine O_qs (q_move rfl) ?_
    refine O_qs (QY.cond0 rfl rfl rfl (fun H => q_fa fa_23_1 rfl)) ?_
    refine O_qs (QY.cond0 rfl rfl rfl (fun H => q_load Try.isAgg3 (gvh rfl H) (rd_chunk (by repeat (first | exact List.Mem.head _ | apply List.Mem.tail)) rfl))) ?_
    refine O_qs (QY.cond0 rfl rfl rfl (fun H => q_gtr (gvh rfl H) rfl)) ?_
    refine O_qs (q_or rfl rfl rfl) ?_
    refine O_qs (q_move rfl) ?_
    refine O_qs (QY.cond0 rfl rfl rfl (fun H => q_fa fa_23_4 rfl)) ?_
    refine O_qs (QY.cond0 rfl rfl rfl (fun H => q_load Try.isAgg3 (gvh rfl H) (rd_chunk (by repeat (first | exact List.Mem.head _ | apply List.Mem.tail)) rfl))) ?_
    refine O_qs (QY.cond0 rfl rfl rfl (fun H => q_lss (gvh rfl H) rfl)) ?_
    refine O_qs (q_or rfl rfl rfl) ?_
    refine O_qs (q_move rfl) ?_
    refine O_qs (QY.cond0 rfl rfl rfl (fun H => q_fa fa_23_4 rfl)) ?_
    refine O_qs (QY.cond0 rfl rfl rfl (fun H => q_load Try.isAgg3 (gvh rfl H) (rd_chunk (by repeat (first | exact List.Mem.head _ | apply List.Mem.tail)) rfl))) ?_
    refine O_qs (QY.cond0 rfl rfl rfl (fun H => q_gtr (gvh rfl H) rfl)) ?_
    refine O_qs (q_or rfl rfl rfl) ?_
    refine O_nil ?_
    refine W_cond rfl ?_ ?_
    · intro h2
      refine W_seq ?_
      refine W_reg rfl ?_
      refine O_qs (q_assign rfl) ?_
      refine O_nil ?_
      refine W_ret ?_
      refine res1 (c0 := []) rfl rfl (by repeat (first | exact Pick.nil | exact Take.here | apply Pick.cons | apply Take.there)) rfl ?_
      refine ⟨?_, rfl⟩
      have : ¬ x.sizesOk := by
        rintro ⟨s1, s2, s3, s4⟩
        simp at h2
        omega
      simp [Conf.err, hk, this]
    · intro h2
      refine W_skip ?_
      refine W_seq ?_
      refine W_seq ?_
      refine W_reg rfl ?_
      refine O_qs (q_fa fa_23_0 rfl) ?_
      refine O_qs (q_load Try.isAgg3 rfl (rd_chunk (by repeat (first | exact List.Mem.head _ | apply List.Mem.tail)) rfl)) ?_
      refine O_qs (q_eql rfl rfl) ?_
      refine O_qs (q_move rfl) ?_
      refine O_qs (QY.cond0 rfl rfl rfl (fun H => q_fa fa_23_2 rfl)) ?_
      refine O_qs (QY.cond0 rfl rfl rfl (fun H => q_load Try.isAgg3 (gvh rfl H) (rd_chunk (by repeat (first | exact List.Mem.head _ | apply List.Mem.tail)) rfl))) ?_
      refine O_qs (QY.cond0 rfl rfl rfl (fun H => q_lss (gvh rfl H) rfl)) ?_
      refine O_qs (QY.cond0 rfl rfl rfl (fun H => q_move (gvh rfl H))) ?_
      refine O_qs (QY.condn rfl rfl rfl (fun H => q_fa fa_23_2 rfl)) ?_
      refine O_qs (QY.condn rfl rfl rfl (fun H => q_load Try.isAgg3 (gvh rfl H) (rd_chunk (by repeat (first | exact List.Mem.head _ | apply List.Mem.tail)) rfl))) ?_
      refine O_qs (QY.condn rfl rfl rfl (fun H => q_gtr (gvh rfl H) rfl)) ?_
      refine O_qs (QY.cond0 rfl rfl rfl (fun H => q_or (gvh rfl H) rfl (gva rfl H))) ?_
      refine O_qs (q_and rfl rfl rfl) ?_
      refine O_qs (q_move rfl) ?_
      refine O_qs (QY.cond0 rfl rfl rfl (fun H => q_fa fa_23_0 rfl)) ?_
      refine O_qs (QY.cond0 rfl rfl rfl (fun H => q_load Try.isAgg3 (gvh rfl H) (rd_chunk (by repeat (first | exact List.Mem.head _ | apply List.Mem.tail)) rfl))) ?_
      refine O_qs (QY.cond0 rfl rfl rfl (fun H => q_neq (gvh rfl H) rfl)) ?_
      refine O_qs (QY.cond0 rfl rfl rfl (fun H => q_move (gvh rfl H))) ?_
      refine O_qs (QY.condn rfl rfl rfl (fun H => q_fa fa_23_2 rfl)) ?_
      refine O_qs (QY.condn rfl rfl rfl (fun H => q_load Try.isAgg3 (gvh rfl H) (rd_chunk (by repeat (first | exact List.Mem.head _ | apply List.Mem.tail)) rfl))) ?_
      refine O_qs (QY.condn rfl rfl rfl (fun H => q_neq (gvh rfl H) rfl)) ?_
      refine O_qs (QY.cond0 rfl rfl rfl (fun H => q_and (gvh rfl H) (gva rfl H) rfl)) ?_
      refine O_qs (q_or rfl rfl rfl) ?_
      refine O_nil ?_
      refine W_cond rfl ?_ ?_
      · intro h3
        refine W_seq ?_
        refine W_reg rfl ?_
        refine O_qs (q_assign rfl) ?_
        refine O_nil ?_
        refine W_ret ?_
        refine res1 (c0 := []) rfl rfl (by repeat (first | exact Pick.nil | exact Take.here | apply Pick.cons | apply Take.there)) rfl ?_
        refine ⟨?_, rfl⟩
        have : ¬ x.sizesOk := by
          rintro ⟨s1, s2, s3, s4⟩
          simp at h3
          split at s3 <;> simp_all <;> omega
        simp [Conf.err, hk, this]
      · intro h3
        refine W_skip ?_
        refine W_seq ?_
        refine W_seq ?_
        refine W_reg rfl ?_
        refine O_qs (q_fa fa_23_0 rfl) ?_
        refine O_qs (q_load Try.isAgg3 rfl (rd_chunk (by repeat (first | exact List.Mem.head _ | apply List.Mem.tail)) rfl)) ?_
        refine O_qs (q_eql rfl rfl) ?_
        refine O_qs (q_move rfl) ?_
        refine O_qs (QY.cond0 rfl rfl rfl (fun H => q_fa fa_23_3 rfl)) ?_
        refine O_qs (QY.cond0 rfl rfl rfl (fun H => q_load Try.isAgg3 (gvh rfl H) (rd_chunk (by repeat (first | exact List.Mem.head _ | apply List.Mem.tail)) rfl))) ?_
        refine O_qs (QY.cond0 rfl rfl rfl (fun H => q_lss (gvh rfl H) rfl)) ?_
        refine O_qs (QY.cond0 rfl rfl rfl (fun H => q_move (gvh rfl H))) ?_
        refine O_qs (QY.condn rfl rfl rfl (fun H => q_fa fa_23_3 rfl)) ?_
        refine O_qs (QY.condn rfl rfl rfl (fun H => q_load Try.isAgg3 (gvh rfl H) (rd_chunk (by repeat (first | exact List.Mem.head _ | apply List.Mem.tail)) rfl))) ?_
        refine O_qs (QY.condn rfl rfl rfl (fun H => q_gtr (gvh rfl H) rfl)) ?_
        refine O_qs (QY.cond0 rfl rfl rfl (fun H => q_or (gvh rfl H) rfl (gva rfl H))) ?_
        refine O_qs (q_and rfl rfl rfl) ?_
        refine O_qs (q_move rfl) ?_
        refine O_qs (QY.cond0 rfl rfl rfl (fun H => q_fa fa_23_0 rfl)) ?_
        refine O_qs (QY.cond0 rfl rfl rfl (fun H => q_load Try.isAgg3 (gvh rfl H) (rd_chunk (by repeat (first | exact List.Mem.head _ | apply List.Mem.tail)) rfl))) ?_
        refine O_qs (QY.cond0 rfl rfl rfl (fun H => q_neq (gvh rfl H) rfl)) ?_
        refine O_qs (QY.cond0 rfl rfl rfl (fun H => q_move (gvh rfl H))) ?_
        refine O_qs (QY.condn rfl rfl rfl (fun H => q_fa fa_23_3 rfl)) ?_
        refine O_qs (QY.condn rfl rfl rfl (fun H => q_load Try.isAgg3 (gvh rfl H) (rd_chunk (by repeat (first | exact List.Mem.head _ | apply List.Mem.tail)) rfl))) ?_
        refine O_qs (QY.condn rfl rfl rfl (fun H => q_neq (gvh rfl H) rfl)) ?_
        refine O_qs (QY.cond0 rfl rfl rfl (fun H => q_and (gvh rfl H) (gva rfl H) rfl)) ?_
        refine O_qs (q_or rfl rfl rfl) ?_
        refine O_nil ?_
        refine W_cond rfl ?_ ?_
        · intro h4
          refine W_seq ?_
          refine W_reg rfl ?_
          refine O_qs (q_assign rfl) ?_
          refine O_nil ?_
          refine W_ret ?_
          refine res1 (c0 := []) rfl rfl (by repeat (first | exact Pick.nil | exact Take.here | apply Pick.cons | apply Take.there)) rfl ?_
          refine ⟨?_, rfl⟩
          have : ¬ x.sizesOk := by
            rintro ⟨s1, s2, s3, s4⟩
            simp at h4
            split at s4 <;> simp_all <;> omega
          simp [Conf.err, hk, this]
        · intro h4
          refine W_skip ?_
          refine W_seq ?_
          refine W_reg rfl ?_
          refine O_qs (q_assign rfl) ?_
          refine O_nil ?_
          refine W_ret ?_
          refine res1 (c0 := []) rfl rfl (by repeat (first | exact Pick.nil | exact Take.here | apply Pick.cons | apply Take.there)) rfl ?_
          refine ⟨?_, rfl⟩
          have : x.sizesOk := by
            simp at h2 h3 h4
            refine ⟨by omega, by omega, ?_, ?_⟩
            · split <;> simp_all <;> omega
            · split <;> simp_all <;> omega
          simp [Conf.err, hk, this]

/-! ### The document's cells -/
def layO : Lay (Plc × Int) where
  enc := fun x => [.int .i64 x.1.kind, .int .i64 x.1.slot, .int .i64 x.1.part, .int .u64 x.2]
  size := 4
  pos := by decide
  len := fun _ => rfl
  one := by
    intro a u h
    simp only [List.mem_cons, List.not_mem_nil, or_false] at h
    rcases h with rfl | rfl | rfl | rfl <;> rfl

abbrev oraw (mb : Nat) (v : Value) : Atom := [(mb, .cells #[v] 40 (0, 0))]

theorem ap_O {B : World} {own : List Nat} {n : Nat} {all : Array Oper} {env : Env} {ctx : Ctx} {dst : Option Tmp} {ty : TypeId} {pos : String} {aft : Array Edge} {x y : Operand} {A : Atom} {v u : Value} {L N : List (Plc × Int)} {c' : Atom → Ctx}
    (hA : Row layO 165 A v L) (hm : ∀ A', Upd ctx A A' (c' A')) (hx : evalO env x = some v) (hy : evalO env y = some u) (hs : Src ⟨Try.prog, B, own, n⟩ ctx u N.length (layO.all N)) (hl : L.length + N.length ≤ 1099511627776) :
    EY ⟨Try.prog, B, own, n⟩ all ⟨dst, .call ⟨.builtin .append, #[x, y], #[38, 38]⟩, ty, pos, aft, none⟩ env ctx (fun v' c => ∃ A', Row layO 165 A' v' (L ++ N) ∧ c = c' A') :=
  e_append (Y := layO) (i := Try.t165) (bytes := 32) Try.underlying38 (by kernel_rfl) rfl rfl rfl rfl hA hm hx hy hs (by omega) (by simp only [maxLen]; omega)

theorem mget_hit {l : List (Plc × Int)} {p : Plc} : ∀ {i : Nat} {w : Int}, l[i]? = some (p, w) → (∀ j q u, j < i → l[j]? = some (q, u) → q ≠ p) → mget l p = some w := by
  induction l with
  | nil => intro i w h _; simp at h
  | cons x r ih =>
    obtain ⟨q, u⟩ := x
    intro i w h hne
    cases i with
    | zero =>
      simp only [List.getElem?_cons_zero, Option.some.injEq, Prod.mk.injEq] at h
      simp [mget, h.1, h.2]
    | succ i =>
      have h0 : q ≠ p := hne 0 q u (by omega) rfl
      simp only [mget]
      rw [if_neg (fun e => h0 e.symm)]
      exact ih (by simpa using h) fun j q u hj hq => hne (j + 1) q u (by omega) (by simpa using hq)
theorem mput_hit {l : List (Plc × Int)} {p : Plc} {v : Int} : ∀ {i : Nat} {w : Int}, l[i]? = some (p, w) → (∀ j q u, j < i → l[j]? = some (q, u) → q ≠ p) → mput l p v = l.set i (p, v) := by
  induction l with
  | nil => intro i w h _; simp at h
  | cons x r ih =>
    obtain ⟨q, u⟩ := x
    intro i w h hne
    cases i with
    | zero =>
      simp only [List.getElem?_cons_zero, Option.some.injEq, Prod.mk.injEq] at h
      simp [mput, h.1]
    | succ i =>
      have h0 : q ≠ p := hne 0 q u (by omega) rfl
      simp only [mput]
      rw [if_neg (fun e => h0 e.symm), List.set_cons_succ, ih (by simpa using h) fun j q u hj hq => hne (j + 1) q u (by omega) (by simpa using hq)]
theorem mget_miss {l : List (Plc × Int)} {p : Plc} (h : ∀ (j : Nat) q u, l[j]? = some (q, u) → q ≠ p) : mget l p = none := by
  refine mget_none l p fun hm => ?_
  obtain ⟨⟨q, u⟩, hx, rfl⟩ := List.mem_map.1 hm
  obtain ⟨j, hj⟩ := List.getElem?_of_mem hx
  exact h j q u hj rfl
theorem mput_miss {l : List (Plc × Int)} {p : Plc} {v : Int} : (∀ (j : Nat) q u, l[j]? = some (q, u) → q ≠ p) → mput l p v = l ++ [(p, v)] := by
  induction l with
  | nil => intro _; rfl
  | cons x r ih =>
    obtain ⟨q, u⟩ := x
    intro h
    have h0 : q ≠ p := h 0 q u rfl
    simp only [mput]
    rw [if_neg (fun e => h0 e.symm), ih fun j q u hj => h (j + 1) q u (by simpa using hj)]
    rfl

theorem plc_ext {p q : Plc} (h1 : p.kind = q.kind) (h2 : p.slot = q.slot) (h3 : p.part = q.part) : p = q := by cases p; cases q; simp_all

theorem ref04_Get (B : World) (mb : Nat) (R : Atom) (v : Value) (l : List (Plc × Int)) (p : Plc) (hR : Row layO 165 R v l) (hl : l.length ≤ 1073741824) :
    Ctr Try.prog 63 [ptr mb, p.v] B [oraw mb v, R] (fun u c => u = .int .u64 (mem l p) ∧ c = [oraw mb v, R]) := by
  have hlen : ∃ a cap, v = .slice a l.length cap := hR.len
  obtain ⟨a, cap, rfl⟩ := hlen
  refine Ctr.intro (n := 33) Try.func63 rfl Try.ntmps63 (Nat.le_of_ble_eq_true rfl) ?_
  refine W_seq ?_
  refine W_reg rfl ?_
  refine O_es (e_box (cs := #[_, _, _]) rfl rfl) ?_
  rintro _ _ ⟨b3, rfl, rfl⟩
  refine O_qs (q_assign rfl) ?_
  refine O_nil ?_
  refine W_seq ?_
  refine W_seq ?_
  refine W_reg rfl ?_
  refine O_qs (q_assign rfl) ?_
  refine O_nil ?_
  refine W_block ?_
  refine W_loopD (fun (i : Nat) => [(5, .int .i64 (i : Int)), (4, .int .u64 0), (3, ptr b3), (0, ptr mb)]) (fun _ => [[(b3, .cells #[.int .i64 p.kind, .int .i64 p.slot, .int .i64 p.part] 79 (0, 0))], oraw mb (.slice a l.length cap), R]) (fun i => l.length - i) (fun i => i ≤ l.length ∧ ∀ j q u, j < i → l[j]? = some (q, u) → q ≠ p) 0 ?_ (by repeat (first | exact Sub.nil | refine Sub.cons rfl ?_)) (by repeat (first | exact Pick.nil | exact Take.here | apply Pick.cons | apply Take.there)) ?_
  · exact ⟨Nat.zero_le _, fun j q u hj => by omega⟩
  · rintro i ⟨hi, hne⟩
    refine W_seq ?_
    refine W_seq ?_
    refine W_reg rfl ?_
    refine O_qs (q_move rfl) ?_
    refine O_qs (q_move rfl) ?_
    refine O_qs (q_nil rfl) ?_
    refine O_qs (q_fa fa_40_0 rfl) ?_
    refine O_qs (q_load Try.isAgg38 rfl (rd_chunk (by repeat (first | exact List.Mem.head _ | apply List.Mem.tail)) rfl)) ?_
    refine O_qs (q_len Try.runUnderlying38 rfl) ?_
    refine O_qs (q_lss rfl rfl) ?_
    refine O_nil ?_
    refine W_cond rfl ?_ ?_
    · intro hc
      have hlt : i < l.length := by simpa using hc
      obtain ⟨g, cap2, e⟩ := hR.ptr (by omega)
      simp only [Value.slice.injEq, true_and] at e
      obtain ⟨rfl, rfl⟩ := e
      obtain ⟨⟨q, w⟩, hq⟩ : ∃ x, l[i]? = some x := ⟨_, List.getElem?_eq_getElem hlt⟩
      refine W_skip ?_
      refine W_seq ?_
      refine W_block ?_
      refine W_seq ?_
      refine W_draw [[], [0], [0, 1], [0, 1, 2], [], [0, 1, 2, 3, 4], [0, 1, 2, 3, 4, 5], [0, 1, 2, 3, 4, 5, 6], [], [0, 1, 2, 3, 4, 5, 6, 7, 8]] rfl rfl rfl ?_
      refine V.qs 0 rfl rfl (q_move rfl) ?_
      refine V.qs 1 rfl rfl (q_nil rfl) ?_
      refine V.qs 2 rfl rfl (q_fa fa_40_0 rfl) ?_
      refine V.qs 3 rfl rfl (q_load Try.isAgg38 rfl (rd_chunk (by repeat (first | exact List.Mem.head _ | apply List.Mem.tail)) rfl)) ?_
      refine V.qs 4 rfl rfl (q_move rfl) ?_
      refine V.qs 5 rfl rfl (q_ian Try.runUnderlying38 Try.sizeOf165 rfl rfl hlt) ?_
      refine V.qs 6 rfl rfl (q_fa fa_165_0 rfl) ?_
      refine V.qs 7 rfl rfl (q_loadN (vs := [.int .i64 q.kind, .int .i64 q.slot, .int .i64 q.part]) Try.isAgg79 Try.sizeOf79 rfl (hR.rdp (by repeat (first | exact List.Mem.head _ | apply List.Mem.tail)) hq (j0 := 0) (by show 0 + i * 4 + 0 = _; simp [layO]) rfl)) ?_
      refine V.qs 8 rfl rfl (q_loadN (vs := [_, _, _]) Try.isAgg79 Try.sizeOf79 rfl (rd_range (by repeat (first | exact List.Mem.head _ | apply List.Mem.tail)) rfl)) ?_
      refine V.qs 9 rfl rfl (q_bin eql_79 rfl rfl) ?_
      refine V.fin rfl ?_
      refine W_cond rfl ?_ ?_
      · intro hd
        have he : q = p := by
          simp at hd
          exact plc_ext hd.1 hd.2.1 hd.2.2
        subst he
        refine W_seq ?_
        refine W_reg rfl ?_
        refine O_qs (q_move rfl) ?_
        refine O_qs (q_nil rfl) ?_
        refine O_qs (q_fa fa_40_0 rfl) ?_
        refine O_qs (q_load Try.isAgg38 rfl (rd_chunk (by repeat (first | exact List.Mem.head _ | apply List.Mem.tail)) rfl)) ?_
        refine O_qs (q_move rfl) ?_
        refine O_qs (q_ian Try.runUnderlying38 Try.sizeOf165 rfl rfl hlt) ?_
        refine O_qs (q_fa fa_165_1 rfl) ?_
        refine O_qs (q_load Try.isAgg41 rfl (hR.rd (by repeat (first | exact List.Mem.head _ | apply List.Mem.tail)) hq (j := 3) rfl (by show 0 + i * 4 + 3 = _; simp [layO]))) ?_
        refine O_qs (q_assign rfl) ?_
        refine O_nil ?_
        refine W_ret ?_
        refine res1 (c0 := [oraw mb _, R]) rfl rfl (by repeat (first | exact Pick.nil | exact Take.here | apply Pick.cons | apply Take.there)) rfl ?_
        refine ⟨?_, rfl⟩
        unfold mem
        rw [mget_hit hq hne]
        rfl
      · intro hd
        have he : q ≠ p := by
          intro e
          subst e
          simp at hd
        refine W_skip ?_
        refine W_reg rfl ?_
        refine O_qs (q_move rfl) ?_
        refine O_qs (q_add (w64 (by omega)) rfl rfl) ?_
        refine O_qs (q_assign rfl) ?_
        refine O_nil ?_
        refine ⟨(i + 1), _, ?_, ?_, (by repeat (first | exact Sub.nil | refine Sub.cons rfl ?_)), (by repeat (first | exact Pick.nil | exact Take.here | apply Pick.cons | apply Take.there))⟩
        · refine ⟨hlt, fun j q' u hj hq' => ?_⟩
          by_cases e : j = i
          · subst e
            rw [hq] at hq'
            simp only [Option.some.injEq, Prod.mk.injEq] at hq'
            rw [← hq'.1]
            exact he
          · exact hne j q' u (by omega) hq'
        · omega
    · intro hc
      have hil : l.length ≤ i := by simpa using hc
      refine W_exit ?_
      refine W_seq ?_
      refine W_reg rfl ?_
      refine O_qs (q_assign rfl) ?_
      refine O_nil ?_
      refine W_ret ?_
      refine res1 (c0 := [oraw mb _, R]) rfl rfl (by repeat (first | exact Pick.nil | exact Take.here | apply Pick.cons | apply Take.there)) rfl ?_
      refine ⟨?_, rfl⟩
      unfold mem
      rw [mget_miss fun j q u hj => hne j q u (by have := (List.getElem?_eq_some_iff.1 hj).1; omega) hj]
      rfl

theorem ref04_Set (B : World) (mb : Nat) (R : Atom) (v : Value) (l : List (Plc × Int)) (p : Plc) (w : Int) (hR : Row layO 165 R v l) (hl : l.length ≤ 1073741824) :
    Ctr Try.prog 61 [ptr mb, p.v, .int .u64 w] B [oraw mb v, R] (fun u c => ∃ R' v', Row layO 165 R' v' (mput l p w) ∧ u = .tuple #[] ∧ c = [oraw mb v', R']) := by
  have hlen : ∃ a cap, v = .slice a l.length cap := hR.len
  obtain ⟨a, cap, rfl⟩ := hlen
  refine Ctr.intro (n := 46) Try.func61 rfl Try.ntmps61 (Nat.le_of_ble_eq_true rfl) ?_
  refine W_seq ?_
  refine W_reg rfl ?_
  refine O_es (e_box (cs := #[_, _, _]) rfl rfl) ?_
  rintro _ _ ⟨b4, rfl, rfl⟩
  refine O_nil ?_
  refine W_seq ?_
  refine W_seq ?_
  refine W_reg rfl ?_
  refine O_qs (q_assign rfl) ?_
  refine O_nil ?_
  refine W_block ?_
  refine W_loopD (fun (i : Nat) => [(6, .int .i64 (i : Int)), (4, ptr b4), (2, .int .u64 w), (0, ptr mb)]) (fun _ => [[(b4, .cells #[.int .i64 p.kind, .int .i64 p.slot, .int .i64 p.part] 79 (0, 0))], oraw mb (.slice a l.length cap), R]) (fun i => l.length - i) (fun i => i ≤ l.length ∧ ∀ j q u, j < i → l[j]? = some (q, u) → q ≠ p) 0 ?_ (by repeat (first | exact Sub.nil | refine Sub.cons rfl ?_)) (by repeat (first | exact Pick.nil | exact Take.here | apply Pick.cons | apply Take.there)) ?_
  · exact ⟨Nat.zero_le _, fun j q u hj => by omega⟩
  · rintro i ⟨hi, hne⟩
    refine W_seq ?_
    refine W_seq ?_
    refine W_reg rfl ?_
    refine O_qs (q_move rfl) ?_
    refine O_qs (q_move rfl) ?_
    refine O_qs (q_nil rfl) ?_
    refine O_qs (q_fa fa_40_0 rfl) ?_
    refine O_qs (q_load Try.isAgg38 rfl (rd_chunk (by repeat (first | exact List.Mem.head _ | apply List.Mem.tail)) rfl)) ?_
    refine O_qs (q_len Try.runUnderlying38 rfl) ?_
    refine O_qs (q_lss rfl rfl) ?_
    refine O_nil ?_
    refine W_cond rfl ?_ ?_
    · intro hc
      have hlt : i < l.length := by simpa using hc
      obtain ⟨g, cap2, e⟩ := hR.ptr (by omega)
      simp only [Value.slice.injEq, true_and] at e
      obtain ⟨rfl, rfl⟩ := e
      obtain ⟨⟨q, u⟩, hq⟩ : ∃ x, l[i]? = some x := ⟨_, List.getElem?_eq_getElem hlt⟩
      refine W_skip ?_
      refine W_seq ?_
      refine W_block ?_
      refine W_seq ?_
      refine W_draw [[], [0], [0, 1], [0, 1, 2], [], [0, 1, 2, 3, 4], [0, 1, 2, 3, 4, 5], [0, 1, 2, 3, 4, 5, 6], [], [0, 1, 2, 3, 4, 5, 6, 7, 8]] rfl rfl rfl ?_
      refine V.qs 0 rfl rfl (q_move rfl) ?_
      refine V.qs 1 rfl rfl (q_nil rfl) ?_
      refine V.qs 2 rfl rfl (q_fa fa_40_0 rfl) ?_
      refine V.qs 3 rfl rfl (q_load Try.isAgg38 rfl (rd_chunk (by repeat (first | exact List.Mem.head _ | apply List.Mem.tail)) rfl)) ?_
      refine V.qs 4 rfl rfl (q_move rfl) ?_
      refine V.qs 5 rfl rfl (q_ian Try.runUnderlying38 Try.sizeOf165 rfl rfl hlt) ?_
      refine V.qs 6 rfl rfl (q_fa fa_165_0 rfl) ?_
      refine V.qs 7 rfl rfl (q_loadN (vs := [.int .i64 q.kind, .int .i64 q.slot, .int .i64 q.part]) Try.isAgg79 Try.sizeOf79 rfl (hR.rdp (by repeat (first | exact List.Mem.head _ | apply List.Mem.tail)) hq (j0 := 0) (by show 0 + i * 4 + 0 = _; simp [layO]) rfl)) ?_
      refine V.qs 8 rfl rfl (q_loadN (vs := [_, _, _]) Try.isAgg79 Try.sizeOf79 rfl (rd_range (by repeat (first | exact List.Mem.head _ | apply List.Mem.tail)) rfl)) ?_
      refine V.qs 9 rfl rfl (q_bin eql_79 rfl rfl) ?_
      refine V.fin rfl ?_
      refine W_cond rfl ?_ ?_
      · intro hd
        have he : q = p := by
          simp at hd
          exact plc_ext hd.1 hd.2.1 hd.2.2
        subst he
        refine W_seq ?_
        refine W_reg rfl ?_
        refine O_qs (q_move rfl) ?_
        refine O_qs (q_nil rfl) ?_
        refine O_qs (q_fa fa_40_0 rfl) ?_
        refine O_qs (q_load Try.isAgg38 rfl (rd_chunk (by repeat (first | exact List.Mem.head _ | apply List.Mem.tail)) rfl)) ?_
        refine O_qs (q_move rfl) ?_
        refine O_qs (q_move rfl) ?_
        refine O_qs (q_ian Try.runUnderlying38 Try.sizeOf165 rfl rfl hlt) ?_
        refine O_qs (q_fa fa_165_1 rfl) ?_
        refine O_en (e_storeRow (vs := [.int .u64 w]) (a' := (q, w)) (j := 3) Try.sizeOf41 hR (fun _ => (by repeat (first | exact Upd.here | apply Upd.there))) hq rfl (by show 0 + i * 4 + 3 = _; simp [layO]) rfl rfl rfl (Nat.le_of_ble_eq_true rfl)) ?_
        rintro _ _ ⟨R', hR', rfl, rfl⟩
        refine O_nil ?_
        refine W_ret ?_
        refine res0 (c0 := [oraw mb _, R']) rfl (by repeat (first | exact Pick.nil | exact Take.here | apply Pick.cons | apply Take.there)) rfl ?_
        rw [← mput_hit hq hne] at hR'
        exact ⟨R', _, hR', rfl, rfl⟩
      · intro hd
        have he : q ≠ p := by
          intro e
          subst e
          simp at hd
        refine W_skip ?_
        refine W_reg rfl ?_
        refine O_qs (q_move rfl) ?_
        refine O_qs (q_add (w64 (by omega)) rfl rfl) ?_
        refine O_qs (q_assign rfl) ?_
        refine O_nil ?_
        refine ⟨(i + 1), _, ?_, ?_, (by repeat (first | exact Sub.nil | refine Sub.cons rfl ?_)), (by repeat (first | exact Pick.nil | exact Take.here | apply Pick.cons | apply Take.there))⟩
        · refine ⟨hlt, fun j q' u hj hq' => ?_⟩
          by_cases e : j = i
          · subst e
            rw [hq] at hq'
            simp only [Option.some.injEq, Prod.mk.injEq] at hq'
            rw [← hq'.1]
            exact he
          · exact hne j q' u (by omega) hq'
        · omega
    · intro hc
      have hil : l.length ≤ i := by simpa using hc
      refine W_exit ?_
      refine W_draw [[], [], [1], [1, 2], [1, 2, 3], [], [], [5, 6], [5, 6, 7], [1, 2, 3, 4, 5, 6, 7, 8], [0, 1, 2, 3, 4, 5, 6, 7, 8, 9], [0, 1, 2, 3, 4, 5, 6, 7, 8, 9, 10], [0, 1, 2, 3, 4, 5, 6, 7, 8, 9, 10, 11]] rfl rfl rfl ?_
      refine V.qs 0 rfl rfl (q_move rfl) ?_
      refine V.qs 1 rfl rfl (q_move rfl) ?_
      refine V.qs 2 rfl rfl (q_nil rfl) ?_
      refine V.qs 3 rfl rfl (q_fa fa_40_0 rfl) ?_
      refine V.qs 4 rfl rfl (q_load Try.isAgg38 rfl (rd_chunk (by repeat (first | exact List.Mem.head _ | apply List.Mem.tail)) rfl)) ?_
      refine V.qs 5 rfl rfl (q_loadN (vs := [_, _, _]) Try.isAgg79 Try.sizeOf79 rfl (rd_range (by repeat (first | exact List.Mem.head _ | apply List.Mem.tail)) rfl)) ?_
      refine V.qs 6 rfl rfl (q_move rfl) ?_
      refine V.qs 7 rfl rfl (q_build rfl (bld_165 (cs := [_, _, _, _]) rfl)) ?_
      refine V.e1s 8 [4, 3, 2, 1, 0] rfl rfl rfl (e_bslice (zl := [.int .i64 0, .int .i64 0, .int .i64 0, .int .u64 0]) (cs := [_, _, _, _]) Try.runUnderlying38 Try.sizeOf165 Try.zeroValue165 rfl (by kernel_rfl) rfl rfl) ?_
      rintro _ _ ⟨b42, rfl, rfl⟩
      refine ⟨st rfl rfl (q_load Try.isAgg38 rfl (rd_chunk (by repeat (first | exact List.Mem.head _ | apply List.Mem.tail)) rfl)) (st rfl rfl (q_fa fa_40_0 rfl) (st rfl rfl (q_nil rfl) (st rfl rfl (q_move rfl) (st rfl rfl (q_move rfl) (st_nil))))), ?_⟩
      refine V.e1s 9 [0] rfl rfl rfl (ap_O (N := [(p, w)]) hR (fun _ => (by repeat (first | exact Upd.here | apply Upd.there))) rfl rfl (src_raw (by repeat (first | exact List.Mem.head _ | apply List.Mem.tail))) (by simp; omega)) ?_
      rintro _ _ ⟨R', hR', rfl⟩
      refine ⟨st rfl rfl (q_move rfl) (st_nil), ?_⟩
      refine V.qs 10 rfl rfl (q_nil rfl) ?_
      refine V.qs 11 rfl rfl (q_fa fa_40_0 rfl) ?_
      obtain ⟨a3, c3, rfl⟩ := hR'.len
      refine V.e1n 12 [] rfl rfl rfl (e_store Try.sizeOf38 rfl rfl rfl (by repeat (first | exact Upd.here | apply Upd.there)) rfl (by simp only [setAll, List.setIfInBounds_toArray, List.set_cons_succ, List.set_cons_zero, Nat.reduceAdd, Nat.zero_add] <;> rfl)) ?_
      rintro _ _ ⟨rfl, rfl⟩
      refine ⟨st_nil, ?_⟩
      refine V.fin rfl ?_
      refine res0 (c0 := [oraw mb _, R']) rfl (by repeat (first | exact Pick.nil | exact Take.here | apply Pick.cons | apply Take.there)) rfl ?_
      refine ⟨R', .slice a3 (l ++ [(p, w)]).length c3, ?_, rfl, rfl⟩
      rw [mput_miss fun j q u hj => hne j q u (by have := (List.getElem?_eq_some_iff.1 hj).1; omega) hj]
      exact hR'

/-! ### The document's core -/
abbrev uraw (ub : Nat) (x : Conf) (e : Int) (v : Value) (n h r : Int) : Atom :=
  [(ub, .cells #[.int .i64 x.kind, .int .i64 x.slots, .int .i64 x.buckets, .int .i64 x.height, .int .i64 x.limit, .int .i64 e, v, .int .i64 n, .int .i64 h, .int .i64 r] 34 (0, 0))]

theorem ap_F {B : World} {own : List Nat} {n : Nat} {all : Array Oper} {env : Env} {ctx : Ctx} {dst : Option Tmp} {ty : TypeId} {pos : String} {aft : Array Edge} {x y : Operand} {A : Atom} {v u : Value} {L N : List SL.Entry} {c' : Atom → Ctx}
    (hA : Row layE 63 A v L) (hm : ∀ A', Upd ctx A A' (c' A')) (hx : evalO env x = some v) (hy : evalO env y = some u) (hs : Src ⟨Try.prog, B, own, n⟩ ctx u N.length (layE.all N)) (hl : L.length + N.length ≤ 1099511627776) :
    EY ⟨Try.prog, B, own, n⟩ all ⟨dst, .call ⟨.builtin .append, #[x, y], #[30, 30]⟩, ty, pos, aft, none⟩ env ctx (fun v' c => ∃ A', Row layE 63 A' v' (L ++ N) ∧ c = c' A') :=
  e_append (Y := layE) (i := Try.t63) (bytes := 24) Try.underlying30 (by kernel_rfl) rfl rfl rfl rfl hA hm hx hy hs (by omega) (by simp only [maxLen]; omega)

theorem ref11_Push (B : World) (ub : Nat) (x : Conf) (e n h r : Int) (R : Atom) (v : Value) (L : List SL.Entry) (y : SL.Entry) (hR : Row layE 63 R v L) (hl : L.length ≤ 1073741824) :
    Ctr Try.prog 97 [.pointer (some ⟨ub, 0 + 6, none⟩), y.v] B [uraw ub x e v n h r, R] (fun u c => ∃ R' v' n', Row layE 63 R' v' (L ++ [y]) ∧ u = .tuple #[] ∧ c = [uraw ub x e v' n' h r, R']) := by
  obtain ⟨a, cap, rfl⟩ := hR.len
  refine Ctr.intro (n := 42) Try.func97 rfl Try.ntmps97 (Nat.le_of_ble_eq_true rfl) ?_
  refine W_seq ?_
  refine W_reg rfl ?_
  refine O_es (e_box (cs := #[_, _, _]) rfl rfl) ?_
  rintro _ _ ⟨b3, rfl, rfl⟩
  refine O_nil ?_
  refine W_seq ?_
  refine W_seq ?_
  refine W_reg rfl ?_
  refine O_qs (q_move rfl) ?_
  refine O_qs (q_nil rfl) ?_
  refine O_qs (q_fa fa_32_1 rfl) ?_
  refine O_qs (q_load Try.isAgg3 rfl (rd_chunk (by repeat (first | exact List.Mem.head _ | apply List.Mem.tail)) rfl)) ?_
  refine O_qs (q_eql rfl rfl) ?_
  refine O_nil ?_
  refine W_cut (fun (n : Int) => [(3, ptr b3), (0, .pointer (some ⟨ub, 0 + 6, none⟩))]) (fun n => [[(b3, .cells #[.int .i64 y.slot, .int .i64 y.retired, .int .i64 y.id] 63 (0, 0))], uraw ub x e (.slice a L.length cap) n h r, R]) (fun _ => True) ?_ ?_
  · refine W_cond rfl ?_ ?_
    · intro hc
      refine W_reg rfl ?_
      refine O_qs (q_move rfl) ?_
      refine O_qs (q_nil rfl) ?_
      refine O_qs (q_fa fa_32_1 rfl) ?_
      refine O_en (e_store Try.sizeOf3 rfl rfl rfl (by repeat (first | exact Upd.here | apply Upd.there)) rfl (by simp only [setAll, List.setIfInBounds_toArray, List.set_cons_succ, List.set_cons_zero, Nat.reduceAdd, Nat.zero_add] <;> rfl)) ?_
      rintro _ _ ⟨rfl, rfl⟩
      refine O_nil ?_
      refine ⟨4, _, ?_, (by repeat (first | exact Sub.nil | refine Sub.cons rfl ?_)), (by repeat (first | exact Pick.nil | exact Take.here | apply Pick.cons | apply Take.there))⟩
      trivial
    · intro hc
      refine W_skip ?_
      refine ⟨n, _, ?_, (by repeat (first | exact Sub.nil | refine Sub.cons rfl ?_)), (by repeat (first | exact Pick.nil | exact Take.here | apply Pick.cons | apply Take.there))⟩
      trivial
  · rintro n -
    refine W_seq ?_
    refine W_cut (fun (_ : Atom × Option Addr × Nat) => [(0, .pointer (some ⟨ub, 0 + 6, none⟩))]) (fun (R3, a3, c3) => [uraw ub x e (.slice a3 (L ++ [y]).length c3) n h r, R3]) (fun (R3, a3, c3) => Row layE 63 R3 (.slice a3 (L ++ [y]).length c3) (L ++ [y])) ?_ ?_
    · have hE : ∀ b, Row layE 63 [(b, .cells #[] 63 (0, 0))] (.slice (some ⟨b, 0, none⟩) 0 0) [] := fun b => .inr ⟨b, 0, #[], rfl, rfl, Nat.le_refl _, by decide, rfl, rfl⟩
      refine W_draw [[], [], [], [2], [2, 3], [2, 3, 4], [1, 2, 3, 4, 5], [], [7], [1, 2, 3, 4, 5, 6, 7, 8], [0, 1, 2, 3, 4, 5, 6, 7, 8, 9], [0, 1, 2, 3, 4, 5, 6, 7, 8, 9, 10], [0, 1, 2, 3, 4, 5, 6, 7, 8, 9, 10, 11]] rfl rfl rfl ?_
      refine V.qs 0 rfl rfl (q_move rfl) ?_
      refine V.qs 2 rfl rfl (q_move rfl) ?_
      refine V.qs 3 rfl rfl (q_nil rfl) ?_
      refine V.qs 4 rfl rfl (q_fa fa_32_0 rfl) ?_
      refine V.qs 5 rfl rfl (q_load Try.isAgg30 rfl (rd_chunk (by repeat (first | exact List.Mem.head _ | apply List.Mem.tail)) rfl)) ?_
      refine V.qs 7 rfl rfl (q_loadN (vs := [_, _, _]) Try.isAgg63 Try.sizeOf63 rfl (rd_range (by repeat (first | exact List.Mem.head _ | apply List.Mem.tail)) rfl)) ?_
      refine V.e2 1 8 [7, 5, 4, 3, 2, 0] [5, 4, 3, 2, 0] rfl rfl rfl rfl rfl rfl (e_bslice (zl := []) (cs := []) Try.runUnderlying30 Try.sizeOf63 Try.zeroValue63 rfl (by kernel_rfl) rfl rfl) (e_bslice (zl := [.int .i64 0, .int .i64 0, .int .i64 0]) (cs := [_, _, _]) Try.runUnderlying30 Try.sizeOf63 Try.zeroValue63 rfl (by kernel_rfl) rfl rfl) ?_ ?_
      · rintro _ _ ⟨b13, rfl, rfl⟩
        refine ⟨st rfl rfl (q_loadN (vs := [_, _, _]) Try.isAgg63 Try.sizeOf63 rfl (rd_range (by repeat (first | exact List.Mem.head _ | apply List.Mem.tail)) rfl)) (st rfl rfl (q_load Try.isAgg30 rfl (rd_chunk (by repeat (first | exact List.Mem.head _ | apply List.Mem.tail)) rfl)) (st rfl rfl (q_fa fa_32_0 rfl) (st rfl rfl (q_nil rfl) (st rfl rfl (q_move rfl) (st rfl rfl (q_move rfl) (st_nil)))))), ?_⟩
        refine V.e2 6 8 [7, 0] [5, 4, 3, 2, 0] rfl rfl rfl rfl rfl rfl (ap_F (N := L) (hE b13) (fun _ => (by repeat (first | exact Upd.here | apply Upd.there))) rfl rfl (hR.src (by repeat (first | exact List.Mem.head _ | apply List.Mem.tail))) (by simp; omega)) (e_bslice (zl := [.int .i64 0, .int .i64 0, .int .i64 0]) (cs := [_, _, _]) Try.runUnderlying30 Try.sizeOf63 Try.zeroValue63 rfl (by kernel_rfl) rfl rfl) ?_ ?_
        · rintro _ _ ⟨R2, hR2, rfl⟩
          refine ⟨st rfl rfl (q_loadN (vs := [_, _, _]) Try.isAgg63 Try.sizeOf63 rfl (rd_range (by repeat (first | exact List.Mem.head _ | apply List.Mem.tail)) rfl)) (st rfl rfl (q_move rfl) (st_nil)), ?_⟩
          refine V.e1s 8 [5, 4, 3, 2, 0] rfl rfl rfl (e_bslice (zl := [.int .i64 0, .int .i64 0, .int .i64 0]) (cs := [_, _, _]) Try.runUnderlying30 Try.sizeOf63 Try.zeroValue63 rfl (by kernel_rfl) rfl rfl) ?_
          rintro _ _ ⟨b20, rfl, rfl⟩
          refine ⟨st rfl rfl (q_load Try.isAgg30 rfl (rd_chunk (by repeat (first | exact List.Mem.head _ | apply List.Mem.tail)) rfl)) (st rfl rfl (q_fa fa_32_0 rfl) (st rfl rfl (q_nil rfl) (st rfl rfl (q_move rfl) (st rfl rfl (q_move rfl) (st_nil))))), ?_⟩
          refine V.e1s 9 [0] rfl rfl rfl (ap_F (N := [y]) hR2 (fun _ => (by repeat (first | exact Upd.here | apply Upd.there))) rfl rfl (src_raw (by repeat (first | exact List.Mem.head _ | apply List.Mem.tail))) (by simp; omega)) ?_
          rintro _ _ ⟨R3, hR3, rfl⟩
          refine ⟨st rfl rfl (q_move rfl) (st_nil), ?_⟩
          refine V.qs 10 rfl rfl (q_nil rfl) ?_
          refine V.qs 11 rfl rfl (q_fa fa_32_0 rfl) ?_
          obtain ⟨a3, c3, rfl⟩ := hR3.len
          refine V.e1n 12 [] rfl rfl rfl (e_store Try.sizeOf30 rfl rfl rfl (by repeat (first | exact Upd.here | apply Upd.there)) rfl (by simp only [setAll, List.setIfInBounds_toArray, List.set_cons_succ, List.set_cons_zero, Nat.reduceAdd, Nat.zero_add] <;> rfl)) ?_
          rintro _ _ ⟨rfl, rfl⟩
          refine ⟨st_nil, ?_⟩
          refine V.fin rfl ?_
          refine ⟨(R3, a3, c3), _, ?_, (by repeat (first | exact Sub.nil | refine Sub.cons rfl ?_)), (by repeat (first | exact Pick.nil | exact Take.here | apply Pick.cons | apply Take.there))⟩
          exact hR3
        · rintro _ _ ⟨b20, rfl, rfl⟩
          refine ⟨st rfl rfl (q_load Try.isAgg30 rfl (rd_chunk (by repeat (first | exact List.Mem.head _ | apply List.Mem.tail)) rfl)) (st rfl rfl (q_fa fa_32_0 rfl) (st rfl rfl (q_nil rfl) (st rfl rfl (q_move rfl) (st rfl rfl (q_move rfl) (st_nil))))), ?_⟩
          refine V.e1s 6 [7, 0] rfl rfl rfl (ap_F (N := L) (hE b13) (fun _ => (by repeat (first | exact Upd.here | apply Upd.there))) rfl rfl (hR.src (by repeat (first | exact List.Mem.head _ | apply List.Mem.tail))) (by simp; omega)) ?_
          rintro _ _ ⟨R2, hR2, rfl⟩
          refine ⟨st rfl rfl (q_loadN (vs := [_, _, _]) Try.isAgg63 Try.sizeOf63 rfl (rd_range (by repeat (first | exact List.Mem.head _ | apply List.Mem.tail)) rfl)) (st rfl rfl (q_move rfl) (st_nil)), ?_⟩
          refine V.e1s 9 [0] rfl rfl rfl (ap_F (N := [y]) hR2 (fun _ => (by repeat (first | exact Upd.here | apply Upd.there))) rfl rfl (src_raw (by repeat (first | exact List.Mem.head _ | apply List.Mem.tail))) (by simp; omega)) ?_
          rintro _ _ ⟨R3, hR3, rfl⟩
          refine ⟨st rfl rfl (q_move rfl) (st_nil), ?_⟩
          refine V.qs 10 rfl rfl (q_nil rfl) ?_
          refine V.qs 11 rfl rfl (q_fa fa_32_0 rfl) ?_
          obtain ⟨a3, c3, rfl⟩ := hR3.len
          refine V.e1n 12 [] rfl rfl rfl (e_store Try.sizeOf30 rfl rfl rfl (by repeat (first | exact Upd.here | apply Upd.there)) rfl (by simp only [setAll, List.setIfInBounds_toArray, List.set_cons_succ, List.set_cons_zero, Nat.reduceAdd, Nat.zero_add] <;> rfl)) ?_
          rintro _ _ ⟨rfl, rfl⟩
          refine ⟨st_nil, ?_⟩
          refine V.fin rfl ?_
          refine ⟨(R3, a3, c3), _, ?_, (by repeat (first | exact Sub.nil | refine Sub.cons rfl ?_)), (by repeat (first | exact Pick.nil | exact Take.here | apply Pick.cons | apply Take.there))⟩
          exact hR3
      · rintro _ _ ⟨b20, rfl, rfl⟩
        refine ⟨st rfl rfl (q_load Try.isAgg30 rfl (rd_chunk (by repeat (first | exact List.Mem.head _ | apply List.Mem.tail)) rfl)) (st rfl rfl (q_fa fa_32_0 rfl) (st rfl rfl (q_nil rfl) (st rfl rfl (q_move rfl) (st rfl rfl (q_move rfl) (st_nil))))), ?_⟩
        refine V.e1s 1 [7, 5, 4, 3, 2, 0] rfl rfl rfl (e_bslice (zl := []) (cs := []) Try.runUnderlying30 Try.sizeOf63 Try.zeroValue63 rfl (by kernel_rfl) rfl rfl) ?_
        rintro _ _ ⟨b13, rfl, rfl⟩
        refine ⟨st rfl rfl (q_loadN (vs := [_, _, _]) Try.isAgg63 Try.sizeOf63 rfl (rd_range (by repeat (first | exact List.Mem.head _ | apply List.Mem.tail)) rfl)) (st rfl rfl (q_load Try.isAgg30 rfl (rd_chunk (by repeat (first | exact List.Mem.head _ | apply List.Mem.tail)) rfl)) (st rfl rfl (q_fa fa_32_0 rfl) (st rfl rfl (q_nil rfl) (st rfl rfl (q_move rfl) (st rfl rfl (q_move rfl) (st_nil)))))), ?_⟩
        refine V.e1s 6 [7, 0] rfl rfl rfl (ap_F (N := L) (hE b13) (fun _ => (by repeat (first | exact Upd.here | apply Upd.there))) rfl rfl (hR.src (by repeat (first | exact List.Mem.head _ | apply List.Mem.tail))) (by simp; omega)) ?_
        rintro _ _ ⟨R2, hR2, rfl⟩
        refine ⟨st rfl rfl (q_loadN (vs := [_, _, _]) Try.isAgg63 Try.sizeOf63 rfl (rd_range (by repeat (first | exact List.Mem.head _ | apply List.Mem.tail)) rfl)) (st rfl rfl (q_move rfl) (st_nil)), ?_⟩
        refine V.e1s 9 [0] rfl rfl rfl (ap_F (N := [y]) hR2 (fun _ => (by repeat (first | exact Upd.here | apply Upd.there))) rfl rfl (src_raw (by repeat (first | exact List.Mem.head _ | apply List.Mem.tail))) (by simp; omega)) ?_
        rintro _ _ ⟨R3, hR3, rfl⟩
        refine ⟨st rfl rfl (q_move rfl) (st_nil), ?_⟩
        refine V.qs 10 rfl rfl (q_nil rfl) ?_
        refine V.qs 11 rfl rfl (q_fa fa_32_0 rfl) ?_
        obtain ⟨a3, c3, rfl⟩ := hR3.len
        refine V.e1n 12 [] rfl rfl rfl (e_store Try.sizeOf30 rfl rfl rfl (by repeat (first | exact Upd.here | apply Upd.there)) rfl (by simp only [setAll, List.setIfInBounds_toArray, List.set_cons_succ, List.set_cons_zero, Nat.reduceAdd, Nat.zero_add] <;> rfl)) ?_
        rintro _ _ ⟨rfl, rfl⟩
        refine ⟨st_nil, ?_⟩
        refine V.fin rfl ?_
        refine ⟨(R3, a3, c3), _, ?_, (by repeat (first | exact Sub.nil | refine Sub.cons rfl ?_)), (by repeat (first | exact Pick.nil | exact Take.here | apply Pick.cons | apply Take.there))⟩
        exact hR3
    · rintro ⟨R3, a3, c3⟩ hR3
      refine W_seq ?_
      refine W_draw [[], [0], [0, 1], [0, 1, 2], [0, 1, 2, 3], [], [5], [5, 6], [5, 6, 7], [0, 1, 2, 3, 4, 5, 6, 7, 8]] rfl rfl rfl ?_
      refine V.qs 0 rfl rfl (q_move rfl) ?_
      refine V.qs 1 rfl rfl (q_nil rfl) ?_
      refine V.qs 2 rfl rfl (q_fa fa_32_0 rfl) ?_
      refine V.qs 3 rfl rfl (q_load Try.isAgg30 rfl (rd_chunk (by repeat (first | exact List.Mem.head _ | apply List.Mem.tail)) rfl)) ?_
      refine V.qs 4 rfl rfl (q_len Try.runUnderlying30 rfl) ?_
      refine V.qs 5 rfl rfl (q_move rfl) ?_
      refine V.qs 6 rfl rfl (q_nil rfl) ?_
      refine V.qs 7 rfl rfl (q_fa fa_32_1 rfl) ?_
      refine V.qs 8 rfl rfl (q_load Try.isAgg3 rfl (rd_chunk (by repeat (first | exact List.Mem.head _ | apply List.Mem.tail)) rfl)) ?_
      refine V.qs 9 rfl rfl (q_gtr rfl rfl) ?_
      refine V.fin rfl ?_
      refine W_cond rfl ?_ ?_
      · intro hc
        refine W_reg rfl ?_
        refine O_qs (q_move rfl) ?_
        refine O_qs (q_move rfl) ?_
        refine O_qs (q_nil rfl) ?_
        refine O_qs (q_fa fa_32_1 rfl) ?_
        refine O_qs (q_load Try.isAgg3 rfl (rd_chunk (by repeat (first | exact List.Mem.head _ | apply List.Mem.tail)) rfl)) ?_
        refine O_qs (q_mul (c := IntKind.i64.wrap (2 * n)) rfl rfl rfl) ?_
        refine O_qs (q_nil rfl) ?_
        refine O_qs (q_fa fa_32_1 rfl) ?_
        refine O_en (e_store Try.sizeOf3 rfl rfl rfl (by repeat (first | exact Upd.here | apply Upd.there)) rfl (by simp only [setAll, List.setIfInBounds_toArray, List.set_cons_succ, List.set_cons_zero, Nat.reduceAdd, Nat.zero_add] <;> rfl)) ?_
        rintro _ _ ⟨rfl, rfl⟩
        refine O_nil ?_
        refine res0 (c0 := [uraw ub x e _ (IntKind.i64.wrap (2 * n)) h r, R3]) rfl (by repeat (first | exact Pick.nil | exact Take.here | apply Pick.cons | apply Take.there)) rfl ?_
        exact ⟨R3, _, _, hR3, rfl, rfl⟩
      · intro hc
        refine W_skip ?_
        refine res0 (c0 := [uraw ub x e _ n h r, R3]) rfl (by repeat (first | exact Pick.nil | exact Take.here | apply Pick.cons | apply Take.there)) rfl ?_
        exact ⟨R3, _, _, hR3, rfl, rfl⟩
end Go.Proofs.Ytaphhhnnplljdaa
