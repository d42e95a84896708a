/-
  The statement of a lane at any level: for every list, level, key and row of deeds the law answers true, and its input reads as it did. No condition.
-/
import Derived.Test.YtbfplncdmbjjhaaGreatRows
import Derived.Test.YtbfplncdmbjjhaaGreatLe2
import Derived.Test.YtbfplncdmbjjhaaGreatFl2
set_option linter.unusedSimpArgs false
set_option linter.unusedVariables false
namespace Go.Proofs.YtbfplncdmbjjhaaGreat
open Go Go.SL Go.ChangeShapes Go.WideShapes Go.ChangeAt Go.RowKit

theorem Tryz.own : ownKnob Tryz.prog.godebug = none := by kernel_rfl
theorem Tryz.laidOut : laidOutB Tryz.prog = true := by kernel_rfl

theorem node_of (cs : List Value) (h : Fits [.i .i64, .i .u64, .i .u64, .b] cs) : ∃ d : Nd, NdW d ∧ layN.enc d = cs := by
  obtain ⟨hl, hf⟩ := h
  obtain ⟨_, e0, x0, rfl, _⟩ := hf 0 _ rfl
  obtain ⟨_, e1, x1, rfl, w1⟩ := hf 1 _ rfl
  obtain ⟨_, e2, x2, rfl, w2⟩ := hf 2 _ rfl
  obtain ⟨_, e3, x3, rfl⟩ := hf 3 _ rfl
  refine ⟨⟨x0, x1, x2, x3⟩, ⟨wf_u64 w1, wf_u64 w2⟩, ?_⟩
  match cs, hl with
  | [c0, c1, c2, c3], _ =>
    simp only [List.getElem?_cons_zero, List.getElem?_cons_succ, Option.some.injEq] at e0 e1 e2 e3
    subst e0 e1 e2 e3
    rfl

theorem act_of (cs : List Value) (h : Fits [.i .i64, .i .i64, .i .i64, .i .i64, .i .u64] cs) : ∃ d : Act, Wd d.w ∧ layA.enc d = cs := by
  obtain ⟨hl, hf⟩ := h
  obtain ⟨_, e0, x0, rfl, _⟩ := hf 0 _ rfl
  obtain ⟨_, e1, x1, rfl, _⟩ := hf 1 _ rfl
  obtain ⟨_, e2, x2, rfl, _⟩ := hf 2 _ rfl
  obtain ⟨_, e3, x3, rfl, _⟩ := hf 3 _ rfl
  obtain ⟨_, e4, x4, rfl, w4⟩ := hf 4 _ rfl
  refine ⟨⟨x0, ⟨x1, x2, x3⟩, x4⟩, wf_u64 w4, ?_⟩
  match cs, hl with
  | [c0, c1, c2, c3, c4], _ =>
    simp only [List.getElem?_cons_zero, List.getElem?_cons_succ, Option.some.injEq] at e0 e1 e2 e3 e4
    subst e0 e1 e2 e3 e4
    rfl

set_option maxRecDepth 100000 in
theorem seekLevels_lifted (os : Os) (started : os.Started) (H : Type) (enc : TypeId × Value → H) :
    ReturnsInHanded {} Tryz.checked os 3 .any (Rows.seekLevelsSpec.pre6 enc Tryz.prog Tryz.f3 Rows.seekLevelsRow.domain false) (Rows.seekLevelsSpec.post enc Tryz.prog Tryz.f3 false true false false) := by
  refine returnsInHanded_of_change (C := Tryz.checked) Tryz.own started (by kernel_rfl) Tryz.func3
    (ChangeSpec.witness6 (enc := enc) (C := Tryz.checked) false ⟨#[], #[.slice none 0 0, .int .i64 0, .int .u64 0, .slice none 0 0], []⟩ 8 (by kernel_rfl) (by kernel_rfl) (by kernel_rfl) (by kernel_rfl)) ?_
  intro W base args ds gs before hval0 hW hcnd _
  have hval : ∀ (j : Nat) t v, Tryz.f3.params[j]? = some t → args[j]? = some v → Value.okWide Tryz.prog W .any base t v := hval0
  have hW' := hW
  obtain ⟨p, q, hA0, hV, rfl, hfz, hnd⟩ := hW
  have hA : DataW.TrodAll enc Tryz.prog W 0 (fun _ => true) true Tryz.f3.params.toList args.toList ds p := hA0
  rw [Tryz.params3] at hA hval
  obtain ⟨v0, v1, v2, v3, d0, d1, d2, d3, p0, p1, p2, p3, rfl, rfl, rfl, h0, h1, h2, h3⟩ := trodAll_four hA
  obtain ⟨rfl, rfl⟩ := trodVars_none hV
  clear hA0 hval0
  have hlt0 : ∀ x ∈ p0, x.block < W.heap.size := fun x hx => by simpa using hW'.lt x (by simp [hx])
  have hlt1 : ∀ x ∈ p1, x.block < W.heap.size := fun x hx => by simpa using hW'.lt x (by simp [hx])
  have hlt2 : ∀ x ∈ p2, x.block < W.heap.size := fun x hx => by simpa using hW'.lt x (by simp [hx])
  have hlt3 : ∀ x ∈ p3, x.block < W.heap.size := fun x hx => by simpa using hW'.lt x (by simp [hx])
  obtain ⟨fuel0, hf0⟩ := id h0
  obtain ⟨sa0, len0, cap0, rfl⟩ := okWide_slice Tryz.underlying22 (hval 0 22 v0 rfl rfl)
  obtain ⟨level, rfl⟩ := okWide_int Tryz.underlying3 (hval 1 3 v1 rfl rfl)
  obtain ⟨key, rfl⟩ := okWide_int Tryz.underlying23 (hval 2 23 v2 rfl rfl)
  obtain ⟨fuel3, hf3⟩ := id h3
  obtain ⟨sc0, len3, cap3, rfl⟩ := okWide_slice Tryz.underlying24 (hval 3 24 v3 rfl rfl)
  obtain ⟨sc, ln3, cp3, hcs3, hlen3, hrec3⟩ := open_recs (n := 4) Tryz.underlying24 (by kernel_rfl : flat Tryz.prog 4 60 = some [.i .i64, .i .i64, .i .i64, .i .i64, .i .u64]) (by kernel_rfl) (by decide) hf3
  have hcs3' : sc0 = sc ∧ len3 = ln3 ∧ cap3 = cp3 := by simpa [Value.cells] using hcs3
  obtain ⟨rfl, rfl, rfl⟩ := hcs3'
  obtain ⟨acts, hal3, hb3, hok3⟩ := rows_of act_of rfl W sc0 len3 hrec3
  subst hal3
  have hlen3' : acts.length ≤ 9223372036854775807 := by simp only [maxLen] at hlen3; omega
  obtain ⟨sa, len, cap, hcs, hlen, hrec⟩ := open_recs (n := 3) Tryz.underlying22 (by kernel_rfl : flat Tryz.prog 3 105 = some [.i .i64, .i .u64, .i .u64, .b]) (by kernel_rfl) (by decide) hf0
  have hcs' : sa0 = sa ∧ len0 = len ∧ cap0 = cap := by simpa [Value.cells] using hcs
  obtain ⟨rfl, rfl, rfl⟩ := hcs'
  obtain ⟨L, hal, hb, hok⟩ := rows_of node_of rfl W sa0 len0 hrec
  subst hal
  have hlen' : L.length ≤ 9223372036854775807 := by simp only [maxLen] at hlen; omega
  refine (law15_SeekLevels W sa0 cap0 L level key sc0 cap3 acts hb hlen' hok hb3 hlen3' hok3).law.mono ?_
  rintro e W' ⟨rfl, hbelow⟩
  refine ⟨_, rfl, _, _, _, [] ++ [], p0 ++ p1 ++ p2 ++ p3, [], hW', ?_, ?_, rfl, hbelow.frame _, fun h => by cases h⟩
  · exact trodAll_mk1 (shut_bool Tryz.underlying4 true)
  · have ea : p0 ++ p1 ++ p2 ++ p3 = p0 ++ (p1 ++ (p2 ++ p3)) := by simp [List.append_assoc]
    rw [ea]
    exact trodAll_mk4 (Below.trod Tryz.laidOut (by kernel_rfl) (of_decide_eq_true (by kernel_rfl)) h0 hbelow hlt0) (Below.trod Tryz.laidOut (by kernel_rfl) (of_decide_eq_true (by kernel_rfl)) h1 hbelow hlt1) (Below.trod Tryz.laidOut (by kernel_rfl) (of_decide_eq_true (by kernel_rfl)) h2 hbelow hlt2) (Below.trod Tryz.laidOut (by kernel_rfl) (of_decide_eq_true (by kernel_rfl)) h3 hbelow hlt3)

theorem seekLevels_holds : Rows.SeekLevelsSaid :=
  OpenClaim.holds_of_wide 3 Tryz.f3 rfl rfl rfl rfl rfl rfl rfl ⟨rfl, rfl, rfl, rfl, rfl⟩ rfl rfl rfl rfl rfl (by kernel_rfl) Tryz.func3 (by kernel_rfl)
    (of_decide_eq_true (by kernel_rfl)) (by unfold Func.isWrapper; first | (rw [if_pos (by decide +kernel)]; kernel_rfl) | (rw [if_neg (by decide +kernel)]; exact ⟨rfl, rfl⟩))
    (fun os started H enc _ => seekLevels_lifted os started H enc)
#print axioms seekLevels_holds
end Go.Proofs.YtbfplncdmbjjhaaGreat
