/-
  The library's sort of places, as a contract.
-/
import Derived.Test.YtbfplncdmbjjhaaGreatKp
import Derived.Test.YtbfplncdmbjjhaaGreatDW
import Derived.Test.YtbfplncdmbjjhaaGreatLy
set_option linter.unusedSimpArgs false
set_option linter.unusedVariables false
namespace Go.Proofs.YtbfplncdmbjjhaaGreat
open Go Go.SL Go.Shelf Go.RowKit Go.Lib Go.Sort

instance : Inhabited Plc := ⟨⟨0, 0, 0⟩⟩
def pcmp (x y : Plc) : Int := or3 (cmpI x.kind y.kind) (cmpI x.slot y.slot) (cmpI x.part y.part)

theorem grown_of {B w : World} (h : Go.SLD.Inv B (Go.SLD.dom []) [] w) : ∃ q os', w = grow (B.drewN q) os' := by
  obtain ⟨_, _, _, hk, hs, ht, ho, hout, hd⟩ := h
  refine ⟨w.drawn - B.drawn, w.heap.extract B.heap.size w.heap.size, ?_⟩
  obtain ⟨heap, tape, drawn, os, output⟩ := w
  obtain ⟨heap', tape', drawn', os', output'⟩ := B
  dsimp only at hk hs ht ho hout hd
  subst ht ho hout
  simp only [grow, World.drewN, World.mk.injEq, true_and, and_true]
  refine ⟨?_, by omega⟩
  apply Array.ext_getElem?
  intro i
  rw [Array.getElem?_append]
  split
  · rename_i hi
    exact hk i hi (by simp [Go.SLD.dom])
  · rename_i hi
    rw [Array.getElem?_extract]
    by_cases hlt : i < heap.size
    · rw [if_pos (by omega)]
      congr 1
      omega
    · rw [if_neg (by omega), Array.getElem?_eq_none (by omega)]

theorem compare_lays (x y : Plc) (W : World) : Calls Tryz.prog 105 #[x.v, y.v] W fun e w' => e = .returned (.int .i64 (pcmp x y)) ∧ ∃ q os', w' = grow (W.drewN q) os' := by
  have hi : Go.SLD.Inv W (Go.SLD.dom []) [] W := ⟨fun b o hm => by simp at hm, by simp [Go.SLD.dom], fun b hb => by simp [Go.SLD.dom] at hb, fun _ _ _ => rfl, Nat.le_refl _, rfl, rfl, rfl, Nat.le_refl _⟩
  refine Calls.mono (d_compare W x.kind x.slot x.part y.kind y.slot y.part hi) ?_
  rintro e w' ⟨v, c, he, hinv, rfl, rfl⟩
  exact ⟨he, grown_of hinv⟩

theorem lt_pless (x y : Plc) : ltOf pcmp x y = pless x y := by
  unfold ltOf pcmp or3 cmpI pless
  by_cases h1 : x.kind = y.kind
  · simp only [h1, Int.lt_irrefl, if_false, ne_eq, not_true_eq_false, if_true]
    by_cases h2 : x.slot = y.slot
    · simp only [h2, Int.lt_irrefl, if_false, ne_eq, not_true_eq_false, if_true]
      by_cases h3 : x.part < y.part
      · simp [h3]
      · by_cases h4 : y.part < x.part <;> simp [h3, h4]
    · by_cases h3 : x.slot < y.slot
      · simp [h2, h3]
      · have h4 : y.slot < x.slot := by omega
        simp [h2, h3, h4]
  · by_cases h3 : x.kind < y.kind
    · simp [h1, h3]
    · have h4 : y.kind < x.kind := by omega
      simp [h1, h3, h4]

theorem pless_iff (x y : Plc) : pless x y = true ↔ x.kind < y.kind ∨ x.kind = y.kind ∧ (x.slot < y.slot ∨ x.slot = y.slot ∧ x.part < y.part) := by
  unfold pless
  by_cases h1 : x.kind = y.kind
  · by_cases h2 : x.slot = y.slot
    · simp [h1, h2]
    · simp [h1, h2]
  · simp [h1]
theorem pless_niff (x y : Plc) : pless x y = false ↔ ¬ (x.kind < y.kind ∨ x.kind = y.kind ∧ (x.slot < y.slot ∨ x.slot = y.slot ∧ x.part < y.part)) := by
  rw [← pless_iff]; simp
theorem pless_total (x y : Plc) (h1 : pless x y = false) (h2 : pless y x = false) : x = y := by
  rw [pless_niff] at h1 h2
  obtain ⟨a, b, c⟩ := x
  obtain ⟨d, e, f⟩ := y
  dsimp only at h1 h2
  have : a = d ∧ b = e ∧ c = f := by omega
  rw [this.1, this.2.1, this.2.2]
theorem pless_swo : SWO (ltOf pcmp) where
  irrefl x := by rw [lt_pless, pless_niff]; omega
  trans x y z h1 h2 := by rw [lt_pless, pless_iff] at *; omega
  ntrans x y z h1 h2 := by rw [lt_pless, pless_niff] at *; omega

theorem all_flat (L : List Plc) (t : Nat) (ht : t < L.length * 3) : (layP.all L)[t]? = some (flatK Plc.l 3 L.toArray)[t]! := by
  have hi : t / 3 < L.length := by omega
  have hj : t % 3 < 3 := Nat.mod_lt _ (by decide)
  have h1 : L[t / 3]? = some L[t / 3] := List.getElem?_eq_getElem hi
  have h2 : (layP.enc L[t / 3])[t % 3]? = some ((Plc.l L[t / 3])[t % 3]!) := by
    show (Plc.l L[t / 3])[t % 3]? = _
    rw [List.getElem?_eq_getElem (by show t % 3 < 3; exact hj), getElem!_pos _ _ (by show t % 3 < 3; exact hj)]
  have h3 := layP.all_get h1 h2
  have h4 : t / 3 * layP.size + t % 3 = t := by show t / 3 * 3 + t % 3 = t; omega
  rw [h4] at h3
  rw [h3, get_flatK _ _ _ t (by simpa using ht), getElem!_pos L.toArray (t / 3) (by simpa using hi)]
  simp

theorem slices_SortFuncP (B : World) (R : Atom) (v : Value) (xs : List Plc) (hR : Row layP 51 R v xs) (hsz : xs.length ≤ 1000000) :
    Ctr Tryz.prog 118 [v, .func (.func 105) #[] #[]] B [R] (fun u c => ∃ R', Row layP 51 R' v (xs.mergeSort fun x y => !pless y x) ∧ u = .tuple #[] ∧ c = [R']) := by
  intro hi
  by_cases hx : xs = []
  · subst hx
    obtain ⟨a, cap, rfl⟩ := hR.len
    have hcon := AnyF.slices_SortFunc_none { sortP with } a cap (.func (.func 105) #[] #[]) B
    refine Calls.mono (show Calls Tryz.prog 118 _ _ _ from hcon) ?_
    rintro e w' ⟨rfl, rfl⟩
    exact ⟨_, [R], rfl, hi, R, by simpa using hR, rfl, rfl⟩
  · rcases hR with ⟨_, h, _⟩ | ⟨g, cap, cur, rfl, rfl, h1, h2, h3, h4⟩
    · exact absurd h hx
    have hg : B.heap[g]? = some (.cells cur 51 (0, 0)) := hi.heap g _ (by simp)
    have hlt : g < B.heap.size := (Array.getElem?_eq_some_iff.1 hg).1
    have hs3 : cur.size = cap * 3 := h3
    have hcell : ∀ t, t < xs.length * 3 → cur[t]? = some (flatK Plc.l 3 xs.toArray)[t]! := by
      intro t ht
      rw [← all_flat xs t ht, ← h4]
      show cur[t]? = (cur.toList.take (xs.length * 3))[t]?
      rw [List.getElem?_take, if_pos ht, Array.getElem?_toList]
    have hH : HoldsK Plc.l 3 B g 0 xs.toArray := by
      intro j hj
      rw [size_flatK] at hj
      have hj' : j < xs.length * 3 := by simpa using hj
      refine ⟨?_, ?_⟩
      · simp only [World.cell?, hg, Nat.zero_add]
        exact hcell j hj'
      · simp [World.frozen?, hg]
    have eg : ∀ args w, (callFunc 105 args).run Tryz.prog w = .ok (.enter 105 args) w := Tryz.call105
    have hcon := AnyQ.slices_SortFunc_total sortP 3 Tryz.isAgg51 Tryz.sizeOf51 Plc.l (fun _ => rfl) (fun x u hu => layP.one x u hu) pcmp pless_swo 105 #[] g 0 cap xs.toArray B eg (fun _ _ _ _ x y => compare_lays x y _) hH hlt (by simp; omega) (fun x y p q => pless_total x y (by rw [← lt_pless]; exact p) (by rw [← lt_pless]; exact q))
    refine Calls.mono (show Calls Tryz.prog 118 _ _ _ from hcon) ?_
    rintro e w' ⟨rfl, n, os, rfl⟩
    have hms : (xs.toArray.toList.mergeSort fun x y => !ltOf pcmp y x) = xs.mergeSort fun x y => !pless y x := by
      simp only [lt_pless]
    rw [hms]
    generalize hys : (xs.mergeSort fun x y => !pless y x) = ys
    have hyl : ys.length = xs.length := by rw [← hys]; exact List.length_mergeSort _
    have hheap : (sortWorldK Plc.l 3 B g 0 n ys.toArray os).heap = (B.heap.modify g (onCells (putCells id 0 (flatK Plc.l 3 ys.toArray)))) ++ os := rfl
    have hsize : (sortWorldK Plc.l 3 B g 0 n ys.toArray os).heap.size = B.heap.size + os.size := by rw [hheap]; simp
    have hget : ∀ k, k < B.heap.size → (sortWorldK Plc.l 3 B g 0 n ys.toArray os).heap[k]? = (B.heap.modify g (onCells (putCells id 0 (flatK Plc.l 3 ys.toArray))))[k]? := by
      intro k hk
      rw [hheap, Array.getElem?_append, if_pos (by simpa using hk)]
    have hb : (sortWorldK Plc.l 3 B g 0 n ys.toArray os).heap[g]? = some (.cells (putCells id 0 (flatK Plc.l 3 ys.toArray) cur) 51 (0, 0)) := by
      rw [hget g hlt, Array.getElem?_modify, if_pos rfl, hg]
      rfl
    have hkeep : ∀ k, k < B.heap.size → k ≠ g → (sortWorldK Plc.l 3 B g 0 n ys.toArray os).heap[k]? = B.heap[k]? := by
      intro k hk hne
      rw [hget k hk, Array.getElem?_modify, if_neg (Ne.symm hne)]
    have hcs : (putCells id 0 (flatK Plc.l 3 ys.toArray) cur).size = cur.size := by simp [putCells]
    refine ⟨_, _, rfl, hi.swap (A' := [(g, .cells (putCells id 0 (flatK Plc.l 3 ys.toArray) cur) 51 (0, 0))]) .here (fun k hk hkA => hkeep k hk (fun e => hkA (by simp [e]))) (by rw [hsize]; omega) rfl rfl rfl (fun b o hm => ?_) (by simp) (fun b hm => .inl hm), _, .inr ⟨g, cap, _, by rw [hyl], rfl, by rw [hyl]; exact h1, h2, by rw [hcs]; exact h3, ?_⟩, rfl, rfl⟩
    · simp only [List.mem_singleton, Prod.mk.injEq] at hm
      rw [hm.1, hm.2]
      exact hb
    · apply List.ext_getElem?
      intro t
      have hal : (layP.all ys).length = ys.length * 3 := layP.all_len ys
      by_cases ht : t < ys.length * 3
      · rw [all_flat ys t ht]
        show ((putCells id 0 (flatK Plc.l 3 ys.toArray) cur).toList.take (ys.length * 3))[t]? = _
        rw [List.getElem?_take, if_pos ht, Array.getElem?_toList]
        have htc : t < cur.size := by rw [hs3]; have := Nat.mul_le_mul_right 3 h1; omega
        simp only [putCells, Array.getElem?_mapIdx, Array.getElem?_eq_getElem htc, Option.map_some]
        rw [if_pos (by rw [size_flatK]; simp; omega)]
        rfl
      · rw [List.getElem?_eq_none (by rw [List.length_take]; show min (ys.length * 3) _ ≤ t; omega), List.getElem?_eq_none (by omega)]
end Go.Proofs.YtbfplncdmbjjhaaGreat
