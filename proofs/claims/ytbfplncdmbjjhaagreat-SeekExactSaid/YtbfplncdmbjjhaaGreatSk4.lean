/-
  Walks: the document's memory: its places, the program's memory out of it, a list laid into it.
-/
import Derived.Test.YtbfplncdmbjjhaaGreatSk3
import Derived.Test.YtbfplncdmbjjhaaGreatIns
import Derived.Test.YtbfplncdmbjjhaaGreatR2
set_option linter.unusedSimpArgs false
set_option linter.unusedVariables false
namespace Go.Proofs.YtbfplncdmbjjhaaGreat
open Go Go.SL

def pless (a b : Plc) : Bool := if a.kind ≠ b.kind then decide (a.kind < b.kind) else if a.slot ≠ b.slot then decide (a.slot < b.slot) else decide (a.part < b.part)

theorem ref04_Less (B : World) (p q : Plc) : Ctr Tryz.prog 90 [p.v, q.v] B [] (fun u c => u = .bool (pless p q) ∧ c = []) := by
  refine Ctr.intro (n := 30) Tryz.func90 rfl Tryz.ntmps90 (Nat.le_of_ble_eq_true rfl) ?_
  refine W_seq ?_
  refine W_reg rfl ?_
  refine O_es (e_box (cs := #[_, _, _]) rfl rfl) ?_
  rintro _ _ ⟨b2, rfl, rfl⟩
  refine O_es (e_box (cs := #[_, _, _]) rfl rfl) ?_
  rintro _ _ ⟨b3, rfl, rfl⟩
  refine O_qs (q_assign rfl) ?_
  refine O_nil ?_
  refine W_seq ?_
  refine W_seq ?_
  refine W_reg rfl ?_
  refine O_qs (q_fa fa_51_0 rfl) ?_
  refine O_qs (q_load Tryz.isAgg3 rfl (rd_chunk (by repeat (first | exact List.Mem.head _ | apply List.Mem.tail)) rfl)) ?_
  refine O_qs (q_fa fa_51_0 rfl) ?_
  refine O_qs (q_load Tryz.isAgg3 rfl (rd_chunk (by repeat (first | exact List.Mem.head _ | apply List.Mem.tail)) rfl)) ?_
  refine O_qs (q_neq rfl rfl) ?_
  refine O_nil ?_
  refine W_cond rfl ?_ ?_
  · intro h
    have h1 : p.kind ≠ q.kind := by simpa using h
    refine W_seq ?_
    refine W_reg rfl ?_
    refine O_qs (q_fa fa_51_0 rfl) ?_
    refine O_qs (q_load Tryz.isAgg3 rfl (rd_chunk (by repeat (first | exact List.Mem.head _ | apply List.Mem.tail)) rfl)) ?_
    refine O_qs (q_fa fa_51_0 rfl) ?_
    refine O_qs (q_load Tryz.isAgg3 rfl (rd_chunk (by repeat (first | exact List.Mem.head _ | apply List.Mem.tail)) rfl)) ?_
    refine O_qs (q_lss rfl rfl) ?_
    refine O_qs (q_assign rfl) ?_
    refine O_nil ?_
    refine W_ret ?_
    refine res1 (c0 := []) rfl rfl (by repeat (first | exact Pick.nil | exact Take.here | apply Pick.cons | apply Take.there)) rfl ?_
    unfold pless
    rw [if_pos h1]
    exact ⟨rfl, rfl⟩
  · intro h
    have h1 : ¬ p.kind ≠ q.kind := by simpa using h
    refine W_skip ?_
    refine W_seq ?_
    refine W_seq ?_
    refine W_reg rfl ?_
    refine O_qs (q_fa fa_51_1 rfl) ?_
    refine O_qs (q_load Tryz.isAgg3 rfl (rd_chunk (by repeat (first | exact List.Mem.head _ | apply List.Mem.tail)) rfl)) ?_
    refine O_qs (q_fa fa_51_1 rfl) ?_
    refine O_qs (q_load Tryz.isAgg3 rfl (rd_chunk (by repeat (first | exact List.Mem.head _ | apply List.Mem.tail)) rfl)) ?_
    refine O_qs (q_neq rfl rfl) ?_
    refine O_nil ?_
    refine W_cond rfl ?_ ?_
    · intro h
      have h2 : p.slot ≠ q.slot := by simpa using h
      refine W_seq ?_
      refine W_reg rfl ?_
      refine O_qs (q_fa fa_51_1 rfl) ?_
      refine O_qs (q_load Tryz.isAgg3 rfl (rd_chunk (by repeat (first | exact List.Mem.head _ | apply List.Mem.tail)) rfl)) ?_
      refine O_qs (q_fa fa_51_1 rfl) ?_
      refine O_qs (q_load Tryz.isAgg3 rfl (rd_chunk (by repeat (first | exact List.Mem.head _ | apply List.Mem.tail)) rfl)) ?_
      refine O_qs (q_lss rfl rfl) ?_
      refine O_qs (q_assign rfl) ?_
      refine O_nil ?_
      refine W_ret ?_
      refine res1 (c0 := []) rfl rfl (by repeat (first | exact Pick.nil | exact Take.here | apply Pick.cons | apply Take.there)) rfl ?_
      unfold pless
      rw [if_neg h1, if_pos h2]
      exact ⟨rfl, rfl⟩
    · intro h
      have h2 : ¬ p.slot ≠ q.slot := by simpa using h
      refine W_skip ?_
      refine W_seq ?_
      refine W_reg rfl ?_
      refine O_qs (q_fa fa_51_2 rfl) ?_
      refine O_qs (q_load Tryz.isAgg3 rfl (rd_chunk (by repeat (first | exact List.Mem.head _ | apply List.Mem.tail)) rfl)) ?_
      refine O_qs (q_fa fa_51_2 rfl) ?_
      refine O_qs (q_load Tryz.isAgg3 rfl (rd_chunk (by repeat (first | exact List.Mem.head _ | apply List.Mem.tail)) rfl)) ?_
      refine O_qs (q_lss rfl rfl) ?_
      refine O_qs (q_assign rfl) ?_
      refine O_nil ?_
      refine W_ret ?_
      refine res1 (c0 := []) rfl rfl (by repeat (first | exact Pick.nil | exact Take.here | apply Pick.cons | apply Take.there)) rfl ?_
      unfold pless
      rw [if_neg h1, if_neg h2]
      exact ⟨rfl, rfl⟩

theorem ref13_Cell (B : World) (s n : Int) : Ctr Tryz.prog 54 [.int .i64 s, .int .i64 n] B [] (fun u c => u = (cellP s n).v ∧ c = []) := by
  refine Ctr.intro (n := 8) Tryz.func54 rfl Tryz.ntmps54 (Nat.le_of_ble_eq_true rfl) ?_
  refine W_seq ?_
  refine W_reg rfl ?_
  refine O_es (e_alloc (cs := #[.int .i64 0, .int .i64 0, .int .i64 0]) Tryz.zeroValue51 rfl) ?_
  rintro _ _ ⟨b4, rfl, rfl⟩
  refine O_nil ?_
  refine W_seq ?_
  refine W_reg rfl ?_
  refine O_qs (q_move rfl) ?_
  refine O_qs (q_move rfl) ?_
  refine O_qs (q_build rfl (bld_51 (cs := [_, _, _]) rfl)) ?_
  refine O_en (e_storeN (vs := [_, _, _]) Tryz.sizeOf51 rfl rfl rfl (by repeat (first | exact Upd.here | apply Upd.there)) rfl (by simp only [setAll, List.setIfInBounds_toArray, List.set_cons_succ, List.set_cons_zero, Nat.reduceAdd, Nat.zero_add] <;> rfl)) ?_
  rintro _ _ ⟨rfl, rfl⟩
  refine O_nil ?_
  refine W_ret ?_
  refine resL (c0 := []) rfl (.cell (us := [_, _, _]) Tryz.isAgg51 Tryz.sizeOf51 rfl (rd_range (by repeat (first | exact List.Mem.head _ | apply List.Mem.tail)) rfl) .nil) (by repeat (first | exact Pick.nil | exact Take.here | apply Pick.cons | apply Take.there)) rfl ?_
  exact ⟨rfl, rfl⟩

def Plc.l (p : Plc) : List Value := [.int .i64 p.kind, .int .i64 p.slot, .int .i64 p.part]
def layP : Lay Plc where
  enc := Plc.l
  size := 3
  pos := by decide
  len := fun _ => rfl
  one := by
    intro a u h
    simp only [Plc.l, List.mem_cons, List.not_mem_nil, or_false] at h
    rcases h with rfl | rfl | rfl <;> rfl

theorem ap_P {B : World} {own : List Nat} {n : Nat} {all : Array Oper} {env : Env} {ctx : Ctx} {dst : Option Tmp} {ty : TypeId} {pos : String} {aft : Array Edge} {x y : Operand} {A : Atom} {v u : Value} {L N : List Plc} {c' : Atom → Ctx}
    (hA : Row layP 51 A v L) (hm : ∀ A', Upd ctx A A' (c' A')) (hx : evalO env x = some v) (hy : evalO env y = some u) (hs : Src ⟨Tryz.prog, B, own, n⟩ ctx u N.length (layP.all N)) (hl : L.length + N.length ≤ 1099511627776) :
    EY ⟨Tryz.prog, B, own, n⟩ all ⟨dst, .call ⟨.builtin .append, #[x, y], #[113, 113]⟩, ty, pos, aft, none⟩ env ctx (fun v' c => ∃ A', Row layP 51 A' v' (L ++ N) ∧ c = c' A') :=
  e_append (Y := layP) (i := Tryz.t51) (bytes := 24) Tryz.underlying113 (by kernel_rfl) rfl rfl rfl rfl hA hm hx hy hs (by omega) (by simp only [maxLen]; omega)

/-- The places of the words, in order. -/
def placesGo : List (Plc × Int) → List Plc → List Plc
  | [], out => out
  | (p, w) :: r, out => if w = 0 then placesGo r out else placesGo r (bub pless (out ++ [p]) out.length)

theorem row_empty {α : Type} (Y : Lay α) (b : Nat) (T : TypeId) : Row Y T [(b, .cells #[] T (0, 0))] (.slice (some ⟨b, 0, none⟩) 0 0) [] := .inr ⟨b, 0, #[], rfl, rfl, Nat.le_refl _, by decide, by simp, by simp [Lay.all]⟩

theorem placesGo_drop {l : List (Plc × Int)} {i : Nat} {p : Plc} {w : Int} {out : List Plc} (h : l[i]? = some (p, w)) : placesGo (l.drop i) out = if w = 0 then placesGo (l.drop (i + 1)) out else placesGo (l.drop (i + 1)) (bub pless (out ++ [p]) out.length) := by
  have hlt : i < l.length := (List.getElem?_eq_some_iff.1 h).1
  have : l.drop i = (p, w) :: l.drop (i + 1) := by
    rw [List.drop_eq_getElem_cons hlt]
    congr 1
    exact (List.getElem?_eq_some_iff.1 h).2
  rw [this]
  rfl

theorem ref04_Places (B : World) (mb : Nat) (R : Atom) (v : Value) (l : List (Plc × Int)) (hR : Row layO 147 R v l) (hl : l.length ≤ 1073741824) :
    Ctr Tryz.prog 56 [ptr mb] B [oraw mb v, R] (fun u c => ∃ R2, Row layP 51 R2 u (placesGo l []) ∧ c = [oraw mb v, R, R2]) := by
  have hlen : ∃ a cap, v = .slice a l.length cap := hR.len
  obtain ⟨a, cap, rfl⟩ := hlen
  refine Ctr.intro (n := 74) Tryz.func56 rfl Tryz.ntmps56 (Nat.le_of_ble_eq_true rfl) ?_
  refine W_seq ?_
  refine W_reg rfl ?_
  refine O_qs (q_assign rfl) ?_
  refine O_nil ?_
  refine W_seq ?_
  refine W_reg rfl ?_
  refine O_es (e_bslice (zl := []) (cs := []) Tryz.runUnderlying113 Tryz.sizeOf51 Tryz.zeroValue51 rfl (by kernel_rfl) rfl rfl) ?_
  rintro _ _ ⟨b7, rfl, rfl⟩
  refine O_qs (q_assign rfl) ?_
  refine O_nil ?_
  refine W_seq ?_
  refine W_seq ?_
  refine W_reg rfl ?_
  refine O_qs (q_assign rfl) ?_
  refine O_nil ?_
  refine W_block ?_
  refine W_loopD (fun (d : Nat × Option Addr × Nat × Atom × List Plc) => [(4, .int .i64 (d.1 : Int)), (3, .slice d.2.1 d.2.2.2.2.length d.2.2.1), (0, ptr mb)]) (fun (_, _, _, R2, _) => [oraw mb (.slice a l.length cap), R, R2]) (fun d => l.length - d.1) (fun (i, a2, c2, R2, out) => i ≤ l.length ∧ out.length ≤ i ∧ Row layP 51 R2 (.slice a2 out.length c2) out ∧ placesGo l [] = placesGo (l.drop i) out) (0, some ⟨b7, 0, none⟩, 0, _, []) ?_ (by repeat (first | exact Sub.nil | refine Sub.cons rfl ?_)) (by repeat (first | exact Pick.nil | exact Take.here | apply Pick.cons | apply Take.there)) ?_
  · exact ⟨Nat.zero_le _, Nat.le_refl _, row_empty layP b7 51, rfl⟩
  · rintro ⟨i, a2, c2, R2, out⟩ ⟨hi, hol, hR2, htot⟩
    dsimp only at hi hol hR2 htot ⊢
    refine W_seq ?_
    refine W_seq ?_
    refine W_reg rfl ?_
    refine O_qs (q_move rfl) ?_
    refine O_qs (q_move rfl) ?_
    refine O_qs (q_nil rfl) ?_
    refine O_qs (q_fa fa_29_0 rfl) ?_
    refine O_qs (q_load Tryz.isAgg27 rfl (rd_chunk (by repeat (first | exact List.Mem.head _ | apply List.Mem.tail)) rfl)) ?_
    refine O_qs (q_len Tryz.runUnderlying27 rfl) ?_
    refine O_qs (q_lss rfl rfl) ?_
    refine O_nil ?_
    refine W_cond rfl ?_ ?_
    · intro hc
      have hlt : i < l.length := by simpa using hc
      obtain ⟨g, cap3, e⟩ := hR.ptr (by omega)
      simp only [Value.slice.injEq, true_and] at e
      obtain ⟨rfl, rfl⟩ := e
      obtain ⟨⟨q, w⟩, hq⟩ : ∃ x, l[i]? = some x := ⟨_, List.getElem?_eq_getElem hlt⟩
      have hstep := placesGo_drop (out := out) hq
      rw [← htot] at hstep
      refine W_skip ?_
      refine W_seq ?_
      refine W_block ?_
      refine W_seq ?_
      refine W_seq ?_
      refine W_reg rfl ?_
      refine O_qs (q_move rfl) ?_
      refine O_qs (q_nil rfl) ?_
      refine O_qs (q_fa fa_29_0 rfl) ?_
      refine O_qs (q_load Tryz.isAgg27 rfl (rd_chunk (by repeat (first | exact List.Mem.head _ | apply List.Mem.tail)) rfl)) ?_
      refine O_qs (q_move rfl) ?_
      refine O_qs (q_ian Tryz.runUnderlying27 Tryz.sizeOf147 rfl rfl hlt) ?_
      refine O_qs (q_fa fa_147_1 rfl) ?_
      refine O_qs (q_load Tryz.isAgg23 rfl (hR.rd (by repeat (first | exact List.Mem.head _ | apply List.Mem.tail)) hq (j := 3) rfl (by show 0 + i * 4 + 3 = _; simp [layO]))) ?_
      refine O_qs (q_eql rfl rfl) ?_
      refine O_nil ?_
      refine W_cond rfl ?_ ?_
      · intro hz
        have hw : w = 0 := by simpa using hz
        rw [if_pos hw] at hstep
        refine W_exit ?_
        refine W_reg rfl ?_
        refine O_qs (q_move rfl) ?_
        refine O_qs (q_add (c := ((i + 1 : Nat) : Int)) (w64' (by omega) (by omega)) rfl rfl) ?_
        refine O_qs (q_assign rfl) ?_
        refine O_nil ?_
        refine ⟨(i + 1, a2, c2, R2, out), _, ?_, ?_, (by repeat (first | exact Sub.nil | refine Sub.cons rfl ?_)), (by repeat (first | exact Pick.nil | exact Take.here | apply Pick.cons | apply Take.there))⟩
        · exact ⟨hlt, Nat.le_succ_of_le hol, hR2, hstep⟩
        · dsimp only; omega
      · intro hz
        have hw : ¬ w = 0 := by simpa using hz
        rw [if_neg hw] at hstep
        refine W_skip ?_
        refine W_seq ?_
        refine W_reg rfl ?_
        refine O_qs (q_move rfl) ?_
        refine O_qs (q_move rfl) ?_
        refine O_qs (q_nil rfl) ?_
        refine O_qs (q_fa fa_29_0 rfl) ?_
        refine O_qs (q_load Tryz.isAgg27 rfl (rd_chunk (by repeat (first | exact List.Mem.head _ | apply List.Mem.tail)) rfl)) ?_
        refine O_qs (q_move rfl) ?_
        refine O_qs (q_ian Tryz.runUnderlying27 Tryz.sizeOf147 rfl rfl hlt) ?_
        refine O_qs (q_fa fa_147_0 rfl) ?_
        refine O_qs (q_loadN (vs := [.int .i64 q.kind, .int .i64 q.slot, .int .i64 q.part]) Tryz.isAgg51 Tryz.sizeOf51 rfl (hR.rdp (by repeat (first | exact List.Mem.head _ | apply List.Mem.tail)) hq (j0 := 0) (by show 0 + i * 4 + 0 = _; simp [layO]) rfl)) ?_
        refine O_es (e_bslice (zl := [.int .i64 0, .int .i64 0, .int .i64 0]) (cs := [_, _, _]) Tryz.runUnderlying113 Tryz.sizeOf51 Tryz.zeroValue51 rfl (by kernel_rfl) rfl rfl) ?_
        rintro _ _ ⟨b35, rfl, rfl⟩
        refine O_es (ap_P (N := [q]) hR2 (fun _ => (by repeat (first | exact Upd.here | apply Upd.there))) rfl rfl (src_raw (by repeat (first | exact List.Mem.head _ | apply List.Mem.tail))) (by simp; omega)) ?_
        rintro _ _ ⟨R3, hR3, rfl⟩
        obtain ⟨g3, c3, rfl⟩ := hR3.ptr (by simp)
        refine O_qs (q_assign rfl) ?_
        refine O_nil ?_
        refine W_seq ?_
        refine W_reg rfl ?_
        refine O_qs (q_move rfl) ?_
        refine O_qs (q_len Tryz.runUnderlying113 rfl) ?_
        refine O_qs (q_sub (c := ((out.length : Nat) : Int)) (w64' (by simp) (by omega)) rfl rfl) ?_
        refine O_qs (q_assign rfl) ?_
        refine O_nil ?_
        refine W_block ?_
        refine W_loopD (fun (d : Nat × Atom × List Plc) => [(5, .int .i64 (d.1 : Int)), (4, .int .i64 (i : Int)), (3, .slice (some ⟨g3, 0, none⟩) (out ++ [q]).length c3), (0, ptr mb)]) (fun (_, R4, _) => [oraw mb (.slice (some ⟨g, 0, none⟩) l.length cap), R, R4]) (fun d => d.1) (fun (k, R4, L) => k < (out ++ [q]).length ∧ L.length = (out ++ [q]).length ∧ Row layP 51 R4 (.slice (some ⟨g3, 0, none⟩) (out ++ [q]).length c3) L ∧ bub pless (out ++ [q]) out.length = bub pless L k) (out.length, R3, out ++ [q]) ?_ (by repeat (first | exact Sub.nil | refine Sub.cons rfl ?_)) (by repeat (first | exact Pick.nil | exact Take.here | apply Pick.cons | apply Take.there)) ?_
        · exact ⟨by simp, rfl, hR3, rfl⟩
        · rintro ⟨k, R4, L⟩ ⟨hk, hLl, hR4, hbub⟩
          dsimp only at hk hLl hR4 hbub ⊢
          have hkx : L[k]? = some L[k] := List.getElem?_eq_getElem (by omega)
          have hky : L[k - 1]? = some L[k - 1] := List.getElem?_eq_getElem (by omega)
          generalize L[k] = x at hkx
          generalize L[k - 1] = y at hky
          have hol1 : (out ++ [q]).length = out.length + 1 := by simp
          refine W_seq ?_
          refine W_seq ?_
          refine W_draw [[], [0], [0, 1], [0, 1, 2], [0, 1, 2], [0, 1, 2, 3, 4], [0, 1, 2, 3, 4, 5], [0, 1, 2], [0, 1, 2], [0, 1, 2, 8], [0, 1, 2, 7, 8, 9], [0, 1, 2, 7, 8, 9, 10], [0, 1, 2, 3, 4, 5, 6, 7, 8, 9, 10, 11], [0, 1, 2, 3, 4, 5, 6, 7, 8, 9, 10, 11, 12]] rfl rfl rfl ?_
          refine V.qs 0 rfl rfl (q_move rfl) ?_
          refine V.qs 1 rfl rfl (q_gtr rfl rfl) ?_
          refine V.qs 2 rfl rfl (q_move rfl) ?_
          refine V.qs 3 rfl rfl (QY.cond0 rfl rfl rfl (fun H => q_move rfl)) ?_
          refine V.qs 4 rfl rfl (QY.cond0 rfl rfl rfl (fun H => q_move rfl)) ?_
          refine V.qs 5 rfl rfl (QY.cond0 rfl rfl rfl (fun H => q_ian Tryz.runUnderlying113 Tryz.sizeOf51 (gvh rfl H) (gvh rfl H) hk)) ?_
          refine V.qs 6 rfl rfl (QY.cond0 rfl rfl rfl (fun H => q_loadN (vs := Plc.l x) Tryz.isAgg51 Tryz.sizeOf51 (gvh rfl H) (hR4.rds (by repeat (first | exact List.Mem.head _ | apply List.Mem.tail)) hkx (by show 0 + k * 3 = _; simp [layP])))) ?_
          refine V.qs 7 rfl rfl (QY.cond0 rfl rfl rfl (fun H => q_move rfl)) ?_
          refine V.qs 8 rfl rfl (QY.cond0 rfl rfl rfl (fun H => q_move rfl)) ?_
          refine V.qs 9 rfl rfl (QY.cond0 rfl rfl rfl (fun H => q_sub (c := ((k - 1 : Nat) : Int)) (by simp at H; exact w64' (by omega) (by omega)) (gvh rfl H) rfl)) ?_
          refine V.qs 10 rfl rfl (QY.cond0 rfl rfl rfl (fun H => q_ian Tryz.runUnderlying113 Tryz.sizeOf51 (gvh rfl H) (gvh rfl H) (Nat.lt_of_le_of_lt (Nat.sub_le _ _) hk))) ?_
          refine V.qs 11 rfl rfl (QY.cond0 rfl rfl rfl (fun H => q_loadN (vs := Plc.l y) Tryz.isAgg51 Tryz.sizeOf51 (gvh rfl H) (hR4.rds (by repeat (first | exact List.Mem.head _ | apply List.Mem.tail)) hky (by show 0 + (k - 1) * 3 = _; simp [layP])))) ?_
          refine V.qs 12 rfl rfl (QY.cond0 rfl rfl rfl (fun H => q_cf Tryz.call90 (ev_cons (gvh rfl H) (ev_cons (gvh rfl H) ev_nil)) (fun wd hwd => (ref04_Less _ x y)) (by repeat (first | exact Pick.nil | exact Take.here | apply Pick.cons | apply Take.there)))) ?_
          refine V.qs 13 rfl rfl (q_and rfl rfl rfl) ?_
          refine V.fin rfl ?_
          refine W_cond rfl ?_ ?_
          · intro hg
            have hg' : (decide (0 < k) && pless x y) = true := by simpa using hg
            have hk0 : 0 < k := by simp at hg'; exact hg'.1
            rw [bub_go pless hkx hky hg'] at hbub
            have hkm : k - 1 < (out ++ [q]).length := Nat.lt_of_le_of_lt (Nat.sub_le _ _) hk
            refine W_skip ?_
            refine W_seq ?_
            refine W_block ?_
            refine W_seq ?_
            refine W_reg rfl ?_
            refine O_qs (q_move rfl) ?_
            refine O_qs (q_move rfl) ?_
            refine O_qs (q_ian Tryz.runUnderlying113 Tryz.sizeOf51 rfl rfl hk) ?_
            refine O_qs (q_loadN (vs := Plc.l x) Tryz.isAgg51 Tryz.sizeOf51 rfl (hR4.rds (by repeat (first | exact List.Mem.head _ | apply List.Mem.tail)) hkx (by show 0 + k * 3 = _; simp [layP]))) ?_
            refine O_es (e_alloc (cs := #[.int .i64 0, .int .i64 0, .int .i64 0]) Tryz.zeroValue51 rfl) ?_
            rintro _ _ ⟨b6, rfl, rfl⟩
            refine O_en (e_storeN (vs := [_, _, _]) Tryz.sizeOf51 rfl rfl rfl (by repeat (first | exact Upd.here | apply Upd.there)) rfl (by simp only [setAll, List.setIfInBounds_toArray, List.set_cons_succ, List.set_cons_zero, Nat.reduceAdd, Nat.zero_add] <;> rfl)) ?_
            rintro _ _ ⟨rfl, rfl⟩
            refine O_nil ?_
            refine W_seq ?_
            refine W_reg rfl ?_
            refine O_qs (q_move rfl) ?_
            refine O_qs (q_move rfl) ?_
            refine O_qs (q_move rfl) ?_
            refine O_qs (q_move rfl) ?_
            refine O_qs (q_sub (c := ((k - 1 : Nat) : Int)) (w64' (by omega) (by omega)) rfl rfl) ?_
            refine O_qs (q_ian Tryz.runUnderlying113 Tryz.sizeOf51 rfl rfl hkm) ?_
            refine O_qs (q_loadN (vs := Plc.l y) Tryz.isAgg51 Tryz.sizeOf51 rfl (hR4.rds (by repeat (first | exact List.Mem.head _ | apply List.Mem.tail)) hky (by show 0 + (k - 1) * 3 = _; simp [layP]))) ?_
            refine O_qs (q_ian Tryz.runUnderlying113 Tryz.sizeOf51 rfl rfl hk) ?_
            refine O_en (e_storeRow (vs := Plc.l y) (a' := y) (j := 0) Tryz.sizeOf51 hR4 (fun _ => (by repeat (first | exact Upd.here | apply Upd.there))) hkx rfl (by show 0 + k * 3 = _; simp [layP]) rfl rfl rfl (Nat.le_of_ble_eq_true rfl)) ?_
            rintro _ _ ⟨R5, hR5, rfl, rfl⟩
            refine O_nil ?_
            refine W_reg rfl ?_
            refine O_qs (q_move rfl) ?_
            refine O_qs (q_move rfl) ?_
            refine O_qs (q_sub (c := ((k - 1 : Nat) : Int)) (w64' (by omega) (by omega)) rfl rfl) ?_
            refine O_qs (q_loadN (vs := [_, _, _]) Tryz.isAgg51 Tryz.sizeOf51 rfl (rd_range (by repeat (first | exact List.Mem.head _ | apply List.Mem.tail)) rfl)) ?_
            refine O_qs (q_ian Tryz.runUnderlying113 Tryz.sizeOf51 rfl rfl hkm) ?_
            have hky2 : (L.set k y)[k - 1]? = some y := by rw [List.getElem?_set_ne (by omega)]; exact hky
            refine O_en (e_storeRow (vs := Plc.l x) (a' := x) (j := 0) Tryz.sizeOf51 hR5 (fun _ => (by repeat (first | exact Upd.here | apply Upd.there))) hky2 rfl (by show 0 + (k - 1) * 3 = _; simp [layP]) rfl rfl rfl (Nat.le_of_ble_eq_true rfl)) ?_
            rintro _ _ ⟨R6, hR6, rfl, rfl⟩
            refine O_nil ?_
            refine W_reg rfl ?_
            refine O_qs (q_move rfl) ?_
            refine O_qs (q_sub (c := ((k - 1 : Nat) : Int)) (w64' (by omega) (by omega)) rfl rfl) ?_
            refine O_qs (q_assign rfl) ?_
            refine O_nil ?_
            refine ⟨(k - 1, R6, (L.set k y).set (k - 1) x), _, ?_, ?_, (by repeat (first | exact Sub.nil | refine Sub.cons rfl ?_)), (by repeat (first | exact Pick.nil | exact Take.here | apply Pick.cons | apply Take.there))⟩
            · exact ⟨hkm, by simpa using hLl, hR6, hbub⟩
            · dsimp only; omega
          · intro hg
            have hg' : (decide (0 < k) && pless x y) = false := by simpa using hg
            rw [bub_stop pless hkx hky hg'] at hbub
            rw [hbub] at hstep
            refine W_exit ?_
            refine W_reg rfl ?_
            refine O_qs (q_move rfl) ?_
            refine O_qs (q_add (c := ((i + 1 : Nat) : Int)) (w64' (by omega) (by omega)) rfl rfl) ?_
            refine O_qs (q_assign rfl) ?_
            refine O_nil ?_
            rw [← hLl] at hR4 ⊢
            refine ⟨(i + 1, some ⟨g3, 0, none⟩, c3, R4, L), _, ?_, ?_, (by repeat (first | exact Sub.nil | refine Sub.cons rfl ?_)), (by repeat (first | exact Pick.nil | exact Take.here | apply Pick.cons | apply Take.there))⟩
            · exact ⟨hlt, (show L.length ≤ i + 1 by omega), hR4, hstep⟩
            · dsimp only; omega
    · intro hc
      have hil : i = l.length := by simp at hc; omega
      subst hil
      rw [List.drop_length] at htot
      refine W_exit ?_
      refine W_seq ?_
      refine W_reg rfl ?_
      refine O_qs (q_move rfl) ?_
      refine O_qs (q_assign rfl) ?_
      refine O_nil ?_
      refine W_ret ?_
      refine res1 (c0 := [oraw mb _, R, R2]) rfl rfl (by repeat (first | exact Pick.nil | exact Take.here | apply Pick.cons | apply Take.there)) rfl ?_
      refine ⟨R2, ?_, rfl⟩
      rw [htot]
      exact hR2

/-! ### The program's memory out of the document's -/
def layInto (m : Mem) : List Plc → List (Plc × Int) → List (Plc × Int)
  | [], l => l
  | p :: r, l => layInto m r (putw l p (m p))

theorem mem_layInto (m : Mem) : ∀ (L : List Plc) (l : List (Plc × Int)), Keys l → ∀ p, mem (layInto m L l) p = if p ∈ L then m p else mem l p
  | [], l, _, p => by simp [layInto]
  | q :: r, l, h, p => by
    rw [layInto, mem_layInto m r _ (Keys.putw h q (m q))]
    by_cases h1 : p ∈ r
    · simp [h1]
    · rw [if_neg h1, mem_putw l h]
      by_cases h2 : p = q
      · subst h2; simp
      · simp [h1, h2]

theorem mem_places : ∀ (l : List (Plc × Int)) (out : List Plc), Keys l → ∀ p, p ∈ placesGo l out ↔ p ∈ out ∨ mem l p ≠ 0
  | [], out, _, p => by simp [placesGo, mem, mget]
  | (q, w) :: r, out, h, p => by
    simp only [Keys, List.map_cons, List.nodup_cons] at h
    have hm : mem ((q, w) :: r) p = if p = q then w else mem r p := by
      unfold mem
      simp only [mget]
      split <;> rfl
    have hq : mem r q = 0 := by
      unfold mem
      rw [mget_none r q h.1]
      rfl
    rw [placesGo, hm]
    by_cases hw : w = 0
    · rw [if_pos hw, mem_places r out h.2]
      by_cases e : p = q
      · subst e; rw [if_pos rfl, hq, hw]
      · rw [if_neg e]
    · rw [if_neg hw, mem_places r _ h.2]
      have : p ∈ bub pless (out ++ [q]) out.length ↔ p ∈ out ∨ p = q := by
        rw [(bub_perm pless _ _).mem_iff]; simp
      rw [this]
      by_cases e : p = q
      · subst e; simp [hw]
      · simp [e]

/-- All words of the document are words. -/
def Wm (l : List (Plc × Int)) : Prop := ∀ p, Wd (mem l p)

theorem law15_laid (B : World) (mb : Nat) (R : Atom) (v : Value) (l : List (Plc × Int)) (hR : Row layO 147 R v l) (hl : l.length ≤ 100000) (hk : Keys l) (hw : Wm l) :
    Ctr Tryz.prog 9 [ptr mb] B [oraw mb v, R] (fun u c => ∃ wb A k l2, PlainIs A wb l2 k ∧ (∀ p, mem l2 p = mem l p) ∧ u = ptr wb ∧ c = [oraw mb v, R, A]) := by
  refine Ctr.intro (n := 30) Tryz.func9 rfl Tryz.ntmps9 (Nat.le_of_ble_eq_true rfl) ?_
  refine W_seq ?_
  refine W_reg rfl ?_
  refine O_qs (q_assign rfl) ?_
  refine O_nil ?_
  refine W_seq ?_
  refine W_reg rfl ?_
  refine O_es (e_cf Tryz.call55 rfl (fun wd hwd => (world_New _)) (by repeat (first | exact Pick.nil | exact Take.here | apply Pick.cons | apply Take.there))) ?_
  rintro _ _ ⟨_, ⟨wb, A, hA, rfl, rfl⟩, rfl⟩
  refine O_qs (q_assign rfl) ?_
  refine O_nil ?_
  refine W_seq ?_
  refine W_reg rfl ?_
  refine O_qs (q_move rfl) ?_
  refine O_es (e_cf Tryz.call56 rfl (fun wd hwd => (ref04_Places _ mb R v l hR (by omega))) (by repeat (first | exact Pick.nil | exact Take.here | apply Pick.cons | apply Take.there))) ?_
  rintro _ _ ⟨_, ⟨R2, hR2, rfl⟩, rfl⟩
  refine O_qs (q_assign rfl) ?_
  refine O_nil ?_
  refine W_seq ?_
  refine W_seq ?_
  obtain ⟨a2, c2, rfl⟩ := hR2.len
  generalize hP : placesGo l [] = P at hR2 ⊢
  have hPl : P.length ≤ l.length := by
    rw [← hP]
    have : ∀ (l : List (Plc × Int)) (out : List Plc), (placesGo l out).length ≤ out.length + l.length := by
      intro l
      induction l with
      | nil => intro out; simp [placesGo]
      | cons x r ih =>
        intro out
        obtain ⟨q, w⟩ := x
        rw [placesGo]
        split
        · have := ih out; simp only [List.length_cons]; omega
        · have := ih (bub pless (out ++ [q]) out.length)
          rw [bub_length] at this
          simp only [List.length_append, List.length_cons, List.length_nil] at this ⊢
          omega
    simpa using this l []
  refine W_reg rfl ?_
  refine O_qs (q_assign rfl) ?_
  refine O_nil ?_
  refine W_block ?_
  refine W_loopD (fun (d : Nat × Atom × Count × List (Plc × Int)) => [(5, .int .i64 (d.1 : Int)), (4, .slice a2 P.length c2), (3, ptr wb), (0, ptr mb)]) (fun (_, A, _, _) => [A, R2, oraw mb v, R]) (fun d => P.length - d.1) (fun (i, A, k, l2) => i ≤ P.length ∧ PlainIs A wb l2 k ∧ layInto (mem l) P [] = layInto (mem l) (P.drop i) l2) (0, A, Count.zero, []) ?_ (by repeat (first | exact Sub.nil | refine Sub.cons rfl ?_)) (by repeat (first | exact Pick.nil | exact Take.here | apply Pick.cons | apply Take.there)) ?_
  · exact ⟨Nat.zero_le _, hA, rfl⟩
  · rintro ⟨i, A, k, l2⟩ ⟨hi, hA, htot⟩
    dsimp only at hi hA htot ⊢
    refine W_seq ?_
    refine W_seq ?_
    refine W_reg rfl ?_
    refine O_qs (q_move rfl) ?_
    refine O_qs (q_move rfl) ?_
    refine O_qs (q_len Tryz.runUnderlying113 rfl) ?_
    refine O_qs (q_lss rfl rfl) ?_
    refine O_nil ?_
    refine W_cond rfl ?_ ?_
    · intro hc
      have hlt : i < P.length := by simpa using hc
      obtain ⟨g, cap3, e⟩ := hR2.ptr (by omega)
      simp only [Value.slice.injEq, true_and] at e
      obtain ⟨rfl, rfl⟩ := e
      have hq : P[i]? = some P[i] := List.getElem?_eq_getElem hlt
      have hdr : P.drop i = P[i] :: P.drop (i + 1) := List.drop_eq_getElem_cons hlt
      rw [hdr] at htot
      generalize P[i] = q at hq htot
      refine W_skip ?_
      refine W_seq ?_
      refine W_block ?_
      refine W_draw [[], [], [], [1, 2], [1, 2, 3], [1, 2, 3, 4], [], [], [], [7, 8], [7, 8, 9], [6, 7, 8, 9, 10], [6, 7, 8, 9, 10, 11], [0, 1, 2, 3, 4, 5, 6, 7, 8, 9, 10, 11, 12]] rfl rfl rfl ?_
      refine V.qs 0 rfl rfl (q_move rfl) ?_
      refine V.qs 1 rfl rfl (q_move rfl) ?_
      refine V.qs 2 rfl rfl (q_move rfl) ?_
      refine V.qs 3 rfl rfl (q_ian Tryz.runUnderlying113 Tryz.sizeOf51 rfl rfl hlt) ?_
      refine V.qs 4 rfl rfl (q_loadN (vs := Plc.l q) Tryz.isAgg51 Tryz.sizeOf51 rfl (hR2.rds (by repeat (first | exact List.Mem.head _ | apply List.Mem.tail)) hq (by show 0 + i * 3 = _; simp [layP]))) ?_
      refine V.qs 5 rfl rfl (q_build rfl (bld_54 (cs := [_, _, _, _]) rfl)) ?_
      refine V.qs 6 rfl rfl (q_move rfl) ?_
      refine V.qs 7 rfl rfl (q_move rfl) ?_
      refine V.qs 8 rfl rfl (q_move rfl) ?_
      refine V.qs 9 rfl rfl (q_ian Tryz.runUnderlying113 Tryz.sizeOf51 rfl rfl hlt) ?_
      refine V.qs 10 rfl rfl (q_loadN (vs := Plc.l q) Tryz.isAgg51 Tryz.sizeOf51 rfl (hR2.rds (by repeat (first | exact List.Mem.head _ | apply List.Mem.tail)) hq (by show 0 + i * 3 = _; simp [layP]))) ?_
      refine V.qs 11 rfl rfl (q_cf Tryz.call58 rfl (fun wd hwd => (ref04_Get _ mb R v l q hR (by omega))) (by repeat (first | exact Pick.nil | exact Take.here | apply Pick.cons | apply Take.there))) ?_
      refine V.qs 12 rfl rfl (q_build rfl (bld_69 (cs := [_, _, _]) rfl)) ?_
      refine V.e1s 13 [] rfl rfl rfl (e_cf Tryz.call57 rfl (fun wd hwd => (world_Store _ A wb k l2 ⟨q, 0⟩ ⟨mem l q, 0, false⟩ (hw q) hA)) (by repeat (first | exact Pick.nil | exact Take.here | apply Pick.cons | apply Take.there))) ?_
      rintro _ _ ⟨_, ⟨A', hA', rfl, rfl⟩, rfl⟩
      refine ⟨st_nil, ?_⟩
      refine V.fin rfl ?_
      refine W_reg rfl ?_
      refine O_qs (q_move rfl) ?_
      refine O_qs (q_add (c := ((i + 1 : Nat) : Int)) (w64' (by omega) (by omega)) rfl rfl) ?_
      refine O_qs (q_assign rfl) ?_
      refine O_nil ?_
      refine ⟨(i + 1, A', { k with stores := inc k.stores }, putw l2 q (mem l q)), _, ?_, ?_, (by repeat (first | exact Sub.nil | refine Sub.cons rfl ?_)), (by repeat (first | exact Pick.nil | exact Take.here | apply Pick.cons | apply Take.there))⟩
      · exact ⟨hlt, hA', htot⟩
      · dsimp only; omega
    · intro hc
      have hil : i = P.length := by simp at hc; omega
      subst hil
      rw [List.drop_length] at htot
      refine W_exit ?_
      refine W_seq ?_
      refine W_reg rfl ?_
      refine O_qs (q_move rfl) ?_
      refine O_qs (q_assign rfl) ?_
      refine O_nil ?_
      refine W_ret ?_
      refine res1 (c0 := [oraw mb v, R, A]) rfl rfl (by repeat (first | exact Pick.nil | exact Take.here | apply Pick.cons | apply Take.there)) rfl ?_
      refine ⟨wb, A, k, l2, hA, fun p => ?_, rfl, rfl⟩
      have h1 := mem_layInto (mem l) P [] List.nodup_nil p
      rw [htot] at h1
      rw [show mem l2 p = _ from h1]
      have h2 := mem_places l [] hk p
      rw [hP] at h2
      split
      · rfl
      · rename_i hn
        have : ¬ (p ∈ ([] : List Plc) ∨ mem l p ≠ 0) := fun h => hn (h2.2 h)
        simp at this
        rw [this]
        rfl
end Go.Proofs.YtbfplncdmbjjhaaGreat
