/-
  Walks: the places of a memory in order; whether both memories are the same.
-/
import Derived.Test.YtbfplncdmbjjhaaGreatKq
import Derived.Test.YtbfplncdmbjjhaaGreatSk8
set_option linter.unusedSimpArgs false
set_option linter.unusedVariables false
namespace Go.Proofs.YtbfplncdmbjjhaaGreat
open Go Go.SL

theorem pless_weak : Weak pless := ⟨fun a b h => by rw [pless_iff] at h; rw [pless_niff]; omega, fun a b c h1 h2 => by rw [pless_niff] at *; omega⟩
theorem strict_of {L : List Plc} (hn : L.Nodup) (ho : L.Pairwise fun a b => pless b a = false) : L.Pairwise fun a b => pless a b = true := by
  refine (ho.and hn).imp fun {a b} h => ?_
  cases hab : pless a b with
  | true => rfl
  | false => exact absurd (pless_total a b hab h.1) h.2

theorem eq_of_strict : ∀ {L1 L2 : List Plc}, (L1.Pairwise fun a b => pless a b = true) → (L2.Pairwise fun a b => pless a b = true) → (∀ p, p ∈ L1 ↔ p ∈ L2) → L1 = L2
  | [], [], _, _, _ => rfl
  | [], y :: r, _, _, h => by have := (h y).2 (by simp); simp at this
  | x :: r, [], _, _, h => by have := (h x).1 (by simp); simp at this
  | x :: r, y :: s, h1, h2, h => by
    rw [List.pairwise_cons] at h1 h2
    have hxy : x = y := by
      rcases List.mem_cons.1 ((h x).1 (by simp)) with e | hx
      · exact e
      · rcases List.mem_cons.1 ((h y).2 (by simp)) with e | hy
        · exact e.symm
        · have a := h2.1 x hx
          have b := h1.1 y hy
          rw [pless_iff] at a b
          omega
    subst hxy
    have hirr : pless x x = false := by rw [pless_niff]; omega
    rw [eq_of_strict h1.2 h2.2 fun p => ?_]
    constructor
    · intro hp
      rcases List.mem_cons.1 ((h p).1 (List.mem_cons_of_mem _ hp)) with e | h'
      · subst e; have := h1.1 p hp; rw [hirr] at this; cases this
      · exact h'
    · intro hp
      rcases List.mem_cons.1 ((h p).2 (List.mem_cons_of_mem _ hp)) with e | h'
      · subst e; have := h2.1 p hp; rw [hirr] at this; cases this
      · exact h'

theorem places_strict : ∀ (l : List (Plc × Int)) (out : List Plc), Keys l → out.Nodup → Ord pless out out.length → (∀ p, p ∈ out → p ∉ l.map (·.1)) → (placesGo l out).Nodup ∧ Ord pless (placesGo l out) (placesGo l out).length
  | [], out, _, hn, ho, _ => ⟨hn, ho⟩
  | (q, w) :: r, out, hk, hn, ho, hd => by
    simp only [Keys, List.map_cons, List.nodup_cons] at hk
    rw [placesGo]
    split
    · exact places_strict r out hk.2 hn ho fun p hp hm => hd p hp (by simp only [List.map_cons, List.mem_cons]; exact .inr hm)
    · have hp := bub_perm pless out.length (out ++ [q])
      have hq : q ∉ out := fun h => hd q h (by simp)
      refine places_strict r _ hk.2 ?_ ?_ ?_
      · rw [hp.nodup_iff, List.nodup_append]
        refine ⟨hn, by simp, fun a ha b hb => ?_⟩
        simp at hb
        subst hb
        exact fun e => hq (e ▸ ha)
      · rw [bub_length]
        have hl : (out ++ [q]).length = out.length + 1 := by simp
        rw [hl]
        refine bub_ord pless pless_weak out.length (out ++ [q]) (out.length + 1) (by omega) (by omega) ?_ ?_
        · intro i j x y hij hj hi1 hj1 hx hy
          rw [List.getElem?_append_left (by omega)] at hx
          rw [List.getElem?_append_left (by omega)] at hy
          exact ho i j x y hij (by omega) hx hy
        · intro j x y h1 h2
          omega
      · intro p hp' hm
        rcases List.mem_append.1 (hp.mem_iff.1 hp') with h | h
        · exact hd p h (by simp only [List.map_cons, List.mem_cons]; exact .inr hm)
        · simp at h
          subst h
          exact hk.1 hm

theorem places_ok {l : List (Plc × Int)} (hk : Keys l) : ((placesGo l []).Pairwise fun a b => pless a b = true) ∧ ∀ p, p ∈ placesGo l [] ↔ mem l p ≠ 0 := by
  obtain ⟨h1, h2⟩ := places_strict l [] hk List.nodup_nil (fun i j x y h h' => by simp at h') (fun p hp => by cases hp)
  refine ⟨strict_of h1 h2.pairwise, fun p => ?_⟩
  rw [mem_places l [] hk p]
  simp

theorem sort_ok {l : List (Plc × Int)} (hk : Keys l) (hw : Wds l) {xs : List Plc} (hp : xs.Perm (l.map (·.1))) :
    ((xs.mergeSort fun x y => !pless y x).Pairwise fun a b => pless a b = true) ∧ ∀ p, p ∈ (xs.mergeSort fun x y => !pless y x) ↔ mem l p ≠ 0 := by
  have hperm := List.mergeSort_perm xs (fun x y => !pless y x)
  have hnd : (xs.mergeSort fun x y => !pless y x).Nodup := (hperm.trans hp).nodup_iff.2 hk
  have hs : (xs.mergeSort fun x y => !pless y x).Pairwise (fun a b => (!pless b a) = true) := by
    refine List.pairwise_mergeSort (fun a b c h1 h2 => ?_) (fun a b => ?_) xs
    · simp only [Bool.not_eq_true'] at *
      exact pless_weak.trans _ _ _ h1 h2
    · cases h : pless b a with
      | false => simp
      | true => simp [pless_weak.asym _ _ h]
  refine ⟨strict_of hnd (hs.imp fun h => by simpa using h), fun p => ?_⟩
  rw [(hperm.trans hp).mem_iff]
  constructor
  · intro h
    obtain ⟨⟨q, w⟩, hm, rfl⟩ := List.mem_map.1 h
    have h1 := hw q w hm
    have : mget l q = some w := by
      clear hp hperm hnd hs h hw
      induction l with
      | nil => cases hm
      | cons x r ih =>
        obtain ⟨q', w'⟩ := x
        simp only [Keys, List.map_cons, List.nodup_cons] at hk
        simp only [mget]
        rcases List.mem_cons.1 hm with e | hm'
        · simp only [Prod.mk.injEq] at e
          rw [if_pos e.1, e.2]
        · have hne : ¬ q = q' := fun e => hk.1 (by rw [← e]; exact List.mem_map.2 ⟨_, hm', rfl⟩)
          rw [if_neg hne]
          exact ih hk.2 hm'
    simp only [mem, this, Option.getD_some]
    omega
  · intro h
    refine Classical.byContradiction fun hn => h ?_
    unfold mem
    rw [mget_none l p hn]
    rfl

theorem maps_CloneP (B : World) (A : Atom) (mb : Nat) (l : List (Plc × Int)) (hA : MapIs Plc.v (Value.int .u64) A mb l) :
    Ctr Tryz.prog 116 [.map (some mb)] B [A] (fun u c => ∃ mb' A', MapIs Plc.v (Value.int .u64) A' mb' l ∧ u = .map (some mb') ∧ c = [A', A]) := by
  obtain ⟨es, clock, rfl, h1, h2, h3⟩ := hA
  intro hi
  have hb : B.heap[mb]? = some (.map es clock) := hi.heap mb _ (by simp)
  have hcon := AnyW.maps_Clone cloneP mb es clock B hb
  refine Calls.mono (show Calls Tryz.prog 116 _ _ _ from hcon) ?_
  rintro e w' ⟨rfl, rfl⟩
  exact ⟨_, _, rfl, hi.alloc _, B.heap.size, _, ⟨es, clock, rfl, h1, h2, h3⟩, rfl, rfl⟩

theorem cell_Copy (B : World) (A : Atom) (cb : Nat) (k : Count) (l : List (Plc × Int)) (hA : CellsIs A cb l k) :
    Ctr Tryz.prog 102 [ptr cb] B [A] (fun u c => ∃ cb' A', CellsIs A' cb' l Count.zero ∧ u = ptr cb' ∧ c = [A', A]) := by
  obtain ⟨mb, Bm, rfl, hB, hl⟩ := hA
  refine Ctr.conv (pre' := [[(cb, .cells (cellsC mb k) 176 (0, 0))], Bm]) rfl ?_
  refine Ctr.intro (n := 12) Tryz.func102 rfl Tryz.ntmps102 (Nat.le_of_ble_eq_true rfl) ?_
  refine W_seq ?_
  refine W_reg rfl ?_
  refine O_qs (q_assign rfl) ?_
  refine O_nil ?_
  refine W_seq ?_
  refine W_seq ?_
  refine W_reg rfl ?_
  refine O_qs (q_move rfl) ?_
  refine O_qs (q_eqnil Tryz.runUnderlying134 rfl rfl) ?_
  refine O_nil ?_
  refine W_false rfl ?_
  refine W_skip ?_
  refine W_seq ?_
  refine W_reg rfl ?_
  refine O_qs (q_move rfl) ?_
  refine O_qs (q_nil rfl) ?_
  refine O_qs (q_fa fa_176_0 rfl) ?_
  refine O_qs (q_load Tryz.isAgg174 rfl (rd_chunk (by repeat (first | exact List.Mem.head _ | apply List.Mem.tail)) rfl)) ?_
  refine O_es (e_cf Tryz.call116 rfl (fun wd hwd => (maps_CloneP _ Bm mb l hB)) (by repeat (first | exact Pick.nil | exact Take.here | apply Pick.cons | apply Take.there))) ?_
  rintro _ _ ⟨_, ⟨mb', Bm', hB', rfl, rfl⟩, rfl⟩
  refine O_qs (q_build rfl (bld_176 (cs := [_, _, _, _, _, _]) rfl)) ?_
  refine O_es (e_box (cs := #[_, _, _, _, _, _]) rfl rfl) ?_
  rintro _ _ ⟨b11, rfl, rfl⟩
  refine O_qs (q_assign rfl) ?_
  refine O_nil ?_
  refine W_ret ?_
  refine res1 (c0 := [[(b11, .cells (cellsC mb' Count.zero) 176 (0, 0))], Bm', [(cb, .cells (cellsC mb k) 176 (0, 0))], Bm]) (c := [(b11, .cells (cellsC mb' Count.zero) 176 (0, 0)) :: Bm', (cb, .cells (cellsC mb k) 176 (0, 0)) :: Bm]) rfl rfl (by repeat (first | exact Pick.nil | exact Take.here | apply Pick.cons | apply Take.there)) rfl ?_
  exact ⟨b11, _, ⟨mb', Bm', rfl, hB', hl⟩, rfl, rfl⟩

theorem world_Cells (B : World) (A : Atom) (wb : Nat) (k : Count) (l : List (Plc × Int)) (hA : PlainIs A wb l k) :
    Ctr Tryz.prog 75 [ptr wb] B [A] (fun u c => ∃ cb' A', CellsIs A' cb' l Count.zero ∧ u = ptr cb' ∧ c = [A', A]) := by
  obtain ⟨cb, Bm, rfl, hB⟩ := hA
  refine Ctr.conv (pre' := [wraw wb cb, Bm]) rfl ?_
  refine Ctr.intro (n := 6) Tryz.func75 rfl Tryz.ntmps75 (Nat.le_of_ble_eq_true rfl) ?_
  refine W_seq ?_
  refine W_reg rfl ?_
  refine O_qs (q_assign rfl) ?_
  refine O_nil ?_
  refine W_seq ?_
  refine W_reg rfl ?_
  refine O_qs (q_move rfl) ?_
  refine O_qs (q_cf Tryz.call78 rfl (fun wd hwd => (world_words _ wb cb)) (by repeat (first | exact Pick.nil | exact Take.here | apply Pick.cons | apply Take.there))) ?_
  refine O_es (e_cf Tryz.call102 rfl (fun wd hwd => (cell_Copy _ Bm cb k l hB)) (by repeat (first | exact Pick.nil | exact Take.here | apply Pick.cons | apply Take.there))) ?_
  rintro _ _ ⟨_, ⟨cb', A', hA', rfl, rfl⟩, rfl⟩
  refine O_qs (q_assign rfl) ?_
  refine O_nil ?_
  refine W_ret ?_
  refine res1 (c0 := [A', wraw wb cb, Bm]) (c := [A', (wb, _) :: Bm]) rfl rfl (by repeat (first | exact Pick.nil | exact Take.here | apply Pick.cons | apply Take.there)) rfl ?_
  exact ⟨cb', A', hA', rfl, rfl⟩

theorem slices_SortedFuncP (B : World) (g : FuncId) (lb : List Value) (S : List Plc → Prop) (N : Nat) (X Y : Atom) (hN : N ≤ 1000000) (hcf : ∀ args w, (callFunc g args).run Tryz.prog w = .ok (.enter g args) w)
    (hI : Gives Tryz.prog g lb Plc.v S N [X, Y] [X, Y]) (hS : ∀ xs, S xs → xs.length ≤ 1000000) :
    Ctr Tryz.prog 103 [.func (.func g) #[] lb.toArray, .func (.func 105) #[] #[]] B [X, Y] (fun u c => ∃ xs R, S xs ∧ Row layP 51 R u (xs.mergeSort fun x y => !pless y x) ∧ c = [R, X, Y]) := by
  refine Ctr.intro (n := 12) Tryz.func103 rfl Tryz.ntmps103 (Nat.le_of_ble_eq_true rfl) ?_
  refine W_seq ?_
  refine W_reg rfl ?_
  refine O_qs (q_assign rfl) ?_
  refine O_nil ?_
  refine W_seq ?_
  refine W_reg rfl ?_
  refine O_qs (q_move rfl) ?_
  refine O_es (e_cf Tryz.call117 rfl (fun wd hwd => (slices_CollectP _ g lb S N X Y hN hcf hI)) (by repeat (first | exact Pick.nil | exact Take.here | apply Pick.cons | apply Take.there))) ?_
  rintro _ _ ⟨_, ⟨xs, R, hx, hR, rfl⟩, rfl⟩
  refine O_qs (q_assign rfl) ?_
  refine O_nil ?_
  refine W_seq ?_
  refine W_reg rfl ?_
  refine O_qs (q_move rfl) ?_
  refine O_qs (q_move rfl) ?_
  refine O_es (e_cf Tryz.call118 rfl (fun wd hwd => (slices_SortFuncP _ R _ xs hR (hS xs hx))) (by repeat (first | exact Pick.nil | exact Take.here | apply Pick.cons | apply Take.there))) ?_
  rintro _ _ ⟨_, ⟨R', hR', rfl, rfl⟩, rfl⟩
  refine O_nil ?_
  refine W_seq ?_
  refine W_reg rfl ?_
  refine O_qs (q_move rfl) ?_
  refine O_qs (q_assign rfl) ?_
  refine O_nil ?_
  refine W_ret ?_
  refine res1 (c0 := [R', X, Y]) rfl rfl (by repeat (first | exact Pick.nil | exact Take.here | apply Pick.cons | apply Take.there)) rfl ?_
  exact ⟨xs, R', hx, hR', rfl⟩

theorem cell_Places (B : World) (A : Atom) (cb : Nat) (k : Count) (l : List (Plc × Int)) (hA : CellsIs A cb l k) (hl : l.length ≤ 1000000) :
    Ctr Tryz.prog 76 [ptr cb] B [A] (fun u c => ∃ ys R, Row layP 51 R u ys ∧ (ys.Pairwise fun a b => pless a b = true) ∧ (∀ p, p ∈ ys ↔ mem l p ≠ 0) ∧ c = [R, A]) := by
  have hk := hA.keys
  have hw := hA.wds
  obtain ⟨mb, Bm, rfl, hB, hwl⟩ := hA
  refine Ctr.conv (pre' := [[(cb, .cells (cellsC mb k) 176 (0, 0))], Bm]) rfl ?_
  refine Ctr.intro (n := 11) Tryz.func76 rfl Tryz.ntmps76 (Nat.le_of_ble_eq_true rfl) ?_
  refine W_seq ?_
  refine W_reg rfl ?_
  refine O_qs (q_assign rfl) ?_
  refine O_nil ?_
  refine W_seq ?_
  refine W_seq ?_
  refine W_reg rfl ?_
  refine O_qs (q_move rfl) ?_
  refine O_qs (q_eqnil Tryz.runUnderlying134 rfl rfl) ?_
  refine O_nil ?_
  refine W_false rfl ?_
  refine W_skip ?_
  refine W_seq ?_
  refine W_reg rfl ?_
  refine O_qs (q_move rfl) ?_
  refine O_qs (q_nil rfl) ?_
  refine O_qs (q_fa fa_176_0 rfl) ?_
  refine O_qs (q_load Tryz.isAgg174 rfl (rd_chunk (by repeat (first | exact List.Mem.head _ | apply List.Mem.tail)) rfl)) ?_
  refine O_es (e_cf Tryz.call104 rfl (fun wd hwd => (maps_KeysP _ mb)) (by repeat (first | exact Pick.nil | exact Take.here | apply Pick.cons | apply Take.there))) ?_
  rintro _ _ ⟨_, ⟨bx, rfl, rfl⟩, rfl⟩
  refine O_es (e_cf Tryz.call103 rfl (fun wd hwd => (slices_SortedFuncP _ _ [ptr bx] (fun ks => ks.Perm (l.map (·.1))) l.length [(bx, .cells #[.map (some mb)] 174 (0, 0))] Bm hl Tryz.call119 (keys1_givesP mb bx Bm l hB) (fun xs hp => by rw [hp.length_eq]; simpa using hl))) (by repeat (first | exact Pick.nil | exact Take.here | apply Pick.cons | apply Take.there))) ?_
  rintro _ _ ⟨_, ⟨xs, R, hp, hR, rfl⟩, rfl⟩
  refine O_qs (q_assign rfl) ?_
  refine O_nil ?_
  refine W_ret ?_
  refine res1 (c0 := [R, [(cb, .cells (cellsC mb k) 176 (0, 0))], Bm]) (c := [R, (cb, _) :: Bm]) rfl rfl (by repeat (first | exact Pick.nil | exact Take.here | apply Pick.cons | apply Take.there)) rfl ?_
  obtain ⟨h1, h2⟩ := sort_ok hk hw hp
  exact ⟨_, R, hR, h1, h2, rfl⟩

theorem placesGo_le : ∀ (l : List (Plc × Int)) (out : List Plc), (placesGo l out).length ≤ out.length + l.length := by
  intro l
  induction l with
  | nil => intro out; simp [placesGo]
  | cons x r ih =>
    intro out
    obtain ⟨q, w⟩ := x
    rw [placesGo]
    split
    · have := ih out; simp only [List.length_cons]; omega
    · have := ih (bub pless (out ++ [q]) out.length)
      rw [bub_length] at this
      simp only [List.length_append, List.length_cons, List.length_nil] at this ⊢
      omega
theorem q_nePlc {M : Mach} {all : Array Oper} {env : Env} {ctx : Ctx} {dst : Option Tmp} {ty : TypeId} {pos : String} {aft : Array Edge} {x y : Operand} {yt : TypeId} {p : Plc} (hM : M.P = Tryz.prog) (hx : evalO env x = some p.v) (hy : evalO env y = some p.v) :
    QY M all ⟨dst, .binOp .neq 51 x y yt, ty, pos, aft, none⟩ env ctx (.bool false) := by
  have h := q_bin (M := M) (all := all) (ctx := ctx) (dst := dst) (ty := ty) (pos := pos) (aft := aft) (yt := yt) (op := .neq) (t := 51) (v := .bool false) (fun w => by
    have := neq_51 (x := x) (y := y) (a0 := p.kind) (b0 := p.kind) (a1 := p.slot) (b1 := p.slot) (a2 := p.part) (b2 := p.part) w
    rw [hM]
    simpa using this) hx hy
  exact h

theorem law15_memory (B : World) (A : Atom) (wb : Nat) (k : Count) (l : List (Plc × Int)) (hA : PlainIs A wb l k) (hl : l.length ≤ 1000000) (mb : Nat) (R : Atom) (v : Value) (l2 : List (Plc × Int)) (hR : Row layO 147 R v l2) (hl2 : l2.length ≤ 1000000) (hk2 : Keys l2) (hm : mem l = mem l2) :
    Ctr Tryz.prog 24 [ptr wb, ptr mb] B [A, oraw mb v, R] (fun u c => u = .bool true ∧ c = [A, oraw mb v, R]) := by
  refine Ctr.intro (n := 48) Tryz.func24 rfl Tryz.ntmps24 (Nat.le_of_ble_eq_true rfl) ?_
  refine W_seq ?_
  refine W_reg rfl ?_
  refine O_qs (q_assign rfl) ?_
  refine O_nil ?_
  refine W_seq ?_
  refine W_reg rfl ?_
  refine O_qs (q_move rfl) ?_
  refine O_es (e_cf Tryz.call75 rfl (fun wd hwd => (world_Cells _ A wb k l hA)) (by repeat (first | exact Pick.nil | exact Take.here | apply Pick.cons | apply Take.there))) ?_
  rintro _ _ ⟨_, ⟨cb', A', hA', rfl, rfl⟩, rfl⟩
  refine O_es (e_cf Tryz.call76 rfl (fun wd hwd => (cell_Places _ A' cb' Count.zero l hA' hl)) (by repeat (first | exact Pick.nil | exact Take.here | apply Pick.cons | apply Take.there))) ?_
  rintro _ _ ⟨_, ⟨ys, R1, hR1, hs1, hm1, rfl⟩, rfl⟩
  refine O_qs (q_assign rfl) ?_
  refine O_nil ?_
  refine W_seq ?_
  refine W_reg rfl ?_
  refine O_qs (q_move rfl) ?_
  refine O_es (e_cf Tryz.call56 rfl (fun wd hwd => (ref04_Places _ mb R v l2 hR (by omega))) (by repeat (first | exact Pick.nil | exact Take.here | apply Pick.cons | apply Take.there))) ?_
  rintro _ _ ⟨_, ⟨R2, hR2, rfl⟩, rfl⟩
  refine O_qs (q_assign rfl) ?_
  refine O_nil ?_
  refine W_seq ?_
  refine W_seq ?_
  obtain ⟨hs2, hm2⟩ := places_ok hk2
  have he : placesGo l2 [] = ys := eq_of_strict hs2 hs1 fun p => by rw [hm1, hm2, hm]
  rw [he] at hR2
  have hyl : ys.length ≤ 1000000 := by
    have := placesGo_le l2 []
    rw [he] at this
    simp at this
    omega
  obtain ⟨a1, c1, rfl⟩ := hR1.len
  obtain ⟨a2, c2, rfl⟩ := hR2.len
  refine W_reg rfl ?_
  refine O_qs (q_move rfl) ?_
  refine O_qs (q_len Tryz.runUnderlying113 rfl) ?_
  refine O_qs (q_move rfl) ?_
  refine O_qs (q_len Tryz.runUnderlying113 rfl) ?_
  refine O_qs (q_neq rfl rfl) ?_
  refine O_nil ?_
  refine W_fa rfl ((by simp)) ?_
  refine W_skip ?_
  refine W_seq ?_
  refine W_seq ?_
  refine W_reg rfl ?_
  refine O_qs (q_assign rfl) ?_
  refine O_nil ?_
  refine W_block ?_
  refine W_loopD (fun (i : Nat) => [(7, .int .i64 (i : Int)), (6, .slice a2 ys.length c2), (5, .slice a1 ys.length c1), (1, ptr mb), (0, ptr wb)]) (fun _ => [A, oraw mb v, R, R1, R2]) (fun i => ys.length - i) (fun i => i ≤ ys.length) 0 ?_ (by repeat (first | exact Sub.nil | refine Sub.cons rfl ?_)) (by repeat (first | exact Pick.nil | exact Take.here | apply Pick.cons | apply Take.there)) ?_
  · exact Nat.zero_le _
  · rintro i hi
    refine W_seq ?_
    refine W_seq ?_
    refine W_reg rfl ?_
    refine O_qs (q_move rfl) ?_
    refine O_qs (q_move rfl) ?_
    refine O_qs (q_len Tryz.runUnderlying113 rfl) ?_
    refine O_qs (q_lss rfl rfl) ?_
    refine O_nil ?_
    refine W_cond rfl ?_ ?_
    · intro hc
      have hlt : i < ys.length := by simpa using hc
      obtain ⟨g1, cap1, e1⟩ := hR1.ptr (by omega)
      simp only [Value.slice.injEq, true_and] at e1
      obtain ⟨rfl, rfl⟩ := e1
      obtain ⟨g2, cap2, e2⟩ := hR2.ptr (by omega)
      simp only [Value.slice.injEq, true_and] at e2
      obtain ⟨rfl, rfl⟩ := e2
      have hV : ys[i]? = some ys[i] := List.getElem?_eq_getElem hlt
      generalize ys[i] = p at hV
      refine W_skip ?_
      refine W_seq ?_
      refine W_block ?_
      refine W_seq ?_
      refine W_draw [[], [], [0, 1], [0, 1, 2], [], [], [4, 5], [4, 5, 6], [0, 1, 2, 3, 4, 5, 6, 7], [0, 1, 2, 3, 4, 5, 6, 7, 8], [0, 1, 2, 3, 4, 5, 6, 7, 8, 9], [0, 1, 2, 3, 4, 5, 6, 7, 8, 9], [0, 1, 2, 3, 4, 5, 6, 7, 8, 9], [0, 1, 2, 3, 4, 5, 6, 7, 8, 9, 11, 12], [0, 1, 2, 3, 4, 5, 6, 7, 8, 9, 11, 12, 13], [0, 1, 2, 3, 4, 5, 6, 7, 8, 9, 10, 11, 12, 13, 14], [0, 1, 2, 3, 4, 5, 6, 7, 8, 9], [0, 1, 2, 3, 4, 5, 6, 7, 8, 9], [0, 1, 2, 3, 4, 5, 6, 7, 8, 9], [0, 1, 2, 3, 4, 5, 6, 7, 8, 9, 17, 18], [0, 1, 2, 3, 4, 5, 6, 7, 8, 9, 17, 18, 19], [0, 1, 2, 3, 4, 5, 6, 7, 8, 9, 10, 11, 12, 13, 14, 15, 16, 17, 18, 19, 20], [0, 1, 2, 3, 4, 5, 6, 7, 8, 9, 10, 11, 12, 13, 14, 15, 16, 17, 18, 19, 20, 21], [0, 1, 2, 3, 4, 5, 6, 7, 8, 9, 10, 11, 12, 13, 14, 15, 16, 17, 18, 19, 20, 21, 22]] rfl rfl rfl ?_
      refine V.qs 0 rfl rfl (q_move rfl) ?_
      refine V.qs 1 rfl rfl (q_move rfl) ?_
      refine V.qs 2 rfl rfl (q_ian Tryz.runUnderlying113 Tryz.sizeOf51 rfl rfl hlt) ?_
      refine V.qs 3 rfl rfl (q_loadN (vs := Plc.l p) Tryz.isAgg51 Tryz.sizeOf51 rfl (hR1.rds (by repeat (first | exact List.Mem.head _ | apply List.Mem.tail)) hV (by show 0 + i * 3 = _; simp [layP]))) ?_
      refine V.qs 4 rfl rfl (q_move rfl) ?_
      refine V.qs 5 rfl rfl (q_move rfl) ?_
      refine V.qs 6 rfl rfl (q_ian Tryz.runUnderlying113 Tryz.sizeOf51 rfl rfl hlt) ?_
      refine V.qs 7 rfl rfl (q_loadN (vs := Plc.l p) Tryz.isAgg51 Tryz.sizeOf51 rfl (hR2.rds (by repeat (first | exact List.Mem.head _ | apply List.Mem.tail)) hV (by show 0 + i * 3 = _; simp [layP]))) ?_
      refine V.qs 8 rfl rfl (q_nePlc rfl rfl rfl) ?_
      refine V.qs 9 rfl rfl (q_move rfl) ?_
      refine V.qs 10 rfl rfl (QY.guard rfl rfl rfl (q_move rfl)) ?_
      refine V.qs 11 rfl rfl (QY.guard rfl rfl rfl (q_move rfl)) ?_
      refine V.qs 12 rfl rfl (QY.guard rfl rfl rfl (q_move rfl)) ?_
      refine V.qs 13 rfl rfl (QY.guard rfl rfl rfl (q_ian Tryz.runUnderlying113 Tryz.sizeOf51 rfl rfl hlt)) ?_
      refine V.qs 14 rfl rfl (QY.guard rfl rfl rfl (q_loadN (vs := Plc.l p) Tryz.isAgg51 Tryz.sizeOf51 rfl (hR1.rds (by repeat (first | exact List.Mem.head _ | apply List.Mem.tail)) hV (by show 0 + i * 3 = _; simp [layP])))) ?_
      refine V.qs 16 rfl rfl (QY.guard rfl rfl rfl (q_move rfl)) ?_
      refine V.qs 17 rfl rfl (QY.guard rfl rfl rfl (q_move rfl)) ?_
      refine V.qs 18 rfl rfl (QY.guard rfl rfl rfl (q_move rfl)) ?_
      refine V.qs 19 rfl rfl (QY.guard rfl rfl rfl (q_ian Tryz.runUnderlying113 Tryz.sizeOf51 rfl rfl hlt)) ?_
      refine V.qs 20 rfl rfl (QY.guard rfl rfl rfl (q_loadN (vs := Plc.l p) Tryz.isAgg51 Tryz.sizeOf51 rfl (hR1.rds (by repeat (first | exact List.Mem.head _ | apply List.Mem.tail)) hV (by show 0 + i * 3 = _; simp [layP])))) ?_
      refine V.qs 15 rfl rfl (QY.guard rfl rfl rfl (q_cf Tryz.call77 rfl (fun wd hwd => (world_Peek _ A wb k l p hA)) (by repeat (first | exact Pick.nil | exact Take.here | apply Pick.cons | apply Take.there)))) ?_
      refine V.qs 21 rfl rfl (QY.guard rfl rfl rfl (q_cf Tryz.call58 rfl (fun wd hwd => (ref04_Get _ mb R v l2 p hR (by omega))) (by repeat (first | exact Pick.nil | exact Take.here | apply Pick.cons | apply Take.there)))) ?_
      refine V.qs 22 rfl rfl (QY.guard rfl rfl rfl (q_neq rfl rfl)) ?_
      refine V.qs 23 rfl rfl (q_pick_f rfl rfl) ?_
      refine V.fin rfl ?_
      refine W_fa rfl ((by rw [hm]; simp)) ?_
      refine W_skip ?_
      refine W_reg rfl ?_
      refine O_qs (q_move rfl) ?_
      refine O_qs (q_add (c := ((i + 1 : Nat) : Int)) (w64' (by omega) (by omega)) rfl rfl) ?_
      refine O_qs (q_assign rfl) ?_
      refine O_nil ?_
      refine ⟨(i + 1), _, ?_, ?_, (by repeat (first | exact Sub.nil | refine Sub.cons rfl ?_)), (by repeat (first | exact Pick.nil | exact Take.here | apply Pick.cons | apply Take.there))⟩
      · exact hlt
      · omega
    · intro hc
      refine W_exit ?_
      refine W_seq ?_
      refine W_reg rfl ?_
      refine O_qs (q_assign rfl) ?_
      refine O_nil ?_
      refine W_ret ?_
      refine res1 (c0 := [A, oraw mb v, R]) rfl rfl (by repeat (first | exact Pick.nil | exact Take.here | apply Pick.cons | apply Take.there)) rfl ?_
      exact ⟨rfl, rfl⟩
end Go.Proofs.YtbfplncdmbjjhaaGreat
