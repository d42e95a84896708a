/-
  The statement of every list, step by step: for every list, root, key and row of deeds the law answers true, and its input reads as it did. No condition.
-/
import Derived.Test.YtbfplncdmbjjhaaGreatRows
import Derived.Test.YtbfplncdmbjjhaaGreatLe4
import Derived.Test.YtbfplncdmbjjhaaGreatFl2
set_option linter.unusedSimpArgs false
set_option linter.unusedVariables false
namespace Go.Proofs.YtbfplncdmbjjhaaGreat
open Go Go.SL Go.ChangeShapes Go.WideShapes Go.ChangeAt Go.RowKit

theorem Tryz.own : ownKnob Tryz.prog.godebug = none := by kernel_rfl
theorem Tryz.laidOut : laidOutB Tryz.prog = true := by kernel_rfl

theorem node_of (cs : List Value) (h : Fits [.i .i64, .i .u64, .i .u64, .b] cs) : ∃ d : Nd, NdW d ∧ layN.enc d = cs := by
  obtain ⟨hl, hf⟩ := h
  obtain ⟨_, e0, x0, rfl, _⟩ := hf 0 _ rfl
  obtain ⟨_, e1, x1, rfl, w1⟩ := hf 1 _ rfl
  obtain ⟨_, e2, x2, rfl, w2⟩ := hf 2 _ rfl
  obtain ⟨_, e3, x3, rfl⟩ := hf 3 _ rfl
  refine ⟨⟨x0, x1, x2, x3⟩, ⟨wf_u64 w1, wf_u64 w2⟩, ?_⟩
  match cs, hl with
  | [c0, c1, c2, c3], _ =>
    simp only [List.getElem?_cons_zero, List.getElem?_cons_succ, Option.some.injEq] at e0 e1 e2 e3
    subst e0 e1 e2 e3
    rfl

theorem act_of (cs : List Value) (h : Fits [.i .i64, .i .i64, .i .i64, .i .i64, .i .u64] cs) : ∃ d : Act, Wd d.w ∧ layA.enc d = cs := by
  obtain ⟨hl, hf⟩ := h
  obtain ⟨_, e0, x0, rfl, _⟩ := hf 0 _ rfl
  obtain ⟨_, e1, x1, rfl, _⟩ := hf 1 _ rfl
  obtain ⟨_, e2, x2, rfl, _⟩ := hf 2 _ rfl
  obtain ⟨_, e3, x3, rfl, _⟩ := hf 3 _ rfl
  obtain ⟨_, e4, x4, rfl, w4⟩ := hf 4 _ rfl
  refine ⟨⟨x0, ⟨x1, x2, x3⟩, x4⟩, wf_u64 w4, ?_⟩
  match cs, hl with
  | [c0, c1, c2, c3, c4], _ =>
    simp only [List.getElem?_cons_zero, List.getElem?_cons_succ, Option.some.injEq] at e0 e1 e2 e3 e4
    subst e0 e1 e2 e3 e4
    rfl

section
variable {H : Type} {enc : TypeId × Value → H} {P : Program} {w : World} {base : Nat} {spare : Nat → Bool} {held : Bool}
theorem all5 {t0 t1 t2 t3 t4 : TypeId} {args : Array Value} {ds : List (DataW H)} {ps : List MemPlace} (h : DataW.TrodAll enc P w base spare held [t0, t1, t2, t3, t4] args.toList ds ps) :
    ∃ v0 v1 v2 v3 v4 d0 d1 d2 d3 d4 p0 p1 p2 p3 p4, args = #[v0, v1, v2, v3, v4] ∧ ds = [d0, d1, d2, d3, d4] ∧ ps = p0 ++ (p1 ++ (p2 ++ (p3 ++ p4))) ∧ DataW.Trod enc P w base spare held t0 v0 d0 p0 ∧ DataW.Trod enc P w base spare held t1 v1 d1 p1 ∧ DataW.Trod enc P w base spare held t2 v2 d2 p2 ∧ DataW.Trod enc P w base spare held t3 v3 d3 p3 ∧ DataW.Trod enc P w base spare held t4 v4 d4 p4 := by
  obtain ⟨v0, vs0, d0, ds0, p0, q0, hargs, rfl, rfl, h0, r0⟩ := trodAll_cons h
  obtain ⟨v1, vs1, d1, ds1, p1, q1, rfl, rfl, rfl, h1, r1⟩ := trodAll_cons r0
  obtain ⟨v2, vs2, d2, ds2, p2, q2, rfl, rfl, rfl, h2, r2⟩ := trodAll_cons r1
  obtain ⟨v3, vs3, d3, ds3, p3, q3, rfl, rfl, rfl, h3, r3⟩ := trodAll_cons r2
  obtain ⟨v4, vs4, d4, ds4, p4, q4, rfl, rfl, rfl, h4, r4⟩ := trodAll_cons r3
  obtain ⟨rfl, rfl, rfl⟩ := trodAll_nil r4
  exact ⟨v0, v1, v2, v3, v4, d0, d1, d2, d3, d4, p0, p1, p2, p3, p4, by cases args; simp_all, rfl, by simp, h0, h1, h2, h3, h4⟩
theorem mk5 {t0 t1 t2 t3 t4 : TypeId} {v0 v1 v2 v3 v4 : Value} {d0 d1 d2 d3 d4 : DataW H} {p0 p1 p2 p3 p4 : List MemPlace} (h0 : DataW.Trod enc P w base spare held t0 v0 d0 p0) (h1 : DataW.Trod enc P w base spare held t1 v1 d1 p1)
    (h2 : DataW.Trod enc P w base spare held t2 v2 d2 p2) (h3 : DataW.Trod enc P w base spare held t3 v3 d3 p3) (h4 : DataW.Trod enc P w base spare held t4 v4 d4 p4) : DataW.TrodAll enc P w base spare held [t0, t1, t2, t3, t4] [v0, v1, v2, v3, v4] [d0, d1, d2, d3, d4] (p0 ++ (p1 ++ (p2 ++ (p3 ++ p4)))) :=
  ⟨p0, _, h0, trodAll_mk4 h1 h2 h3 h4, rfl⟩
end

set_option maxRecDepth 100000 in
theorem seekExact_lifted (os : Os) (started : os.Started) (H : Type) (enc : TypeId × Value → H) :
    ReturnsInHanded {} Tryz.checked os 4 .any (Rows.seekExactSpec.pre6 enc Tryz.prog Tryz.f4 Rows.seekExactRow.domain false) (Rows.seekExactSpec.post enc Tryz.prog Tryz.f4 false true false false) := by
  refine returnsInHanded_of_change (C := Tryz.checked) Tryz.own started (by kernel_rfl) Tryz.func4
    (ChangeSpec.witness6 (enc := enc) (C := Tryz.checked) false ⟨#[], #[.slice none 0 0, .int .i64 0, .int .u64 0, .bool false, .slice none 0 0], []⟩ 8 (by kernel_rfl) (by kernel_rfl) (by kernel_rfl) (by kernel_rfl)) ?_
  intro W base args ds gs before hval0 hW hcnd _
  have hval : ∀ (j : Nat) t v, Tryz.f4.params[j]? = some t → args[j]? = some v → Value.okWide Tryz.prog W .any base t v := hval0
  have hW' := hW
  obtain ⟨p, q, hA0, hV, rfl, hfz, hnd⟩ := hW
  have hA : DataW.TrodAll enc Tryz.prog W 0 (fun _ => true) true Tryz.f4.params.toList args.toList ds p := hA0
  rw [Tryz.params4] at hA hval
  obtain ⟨v0, v1, v2, v3, v4, d0, d1, d2, d3, d4, p0, p1, p2, p3, p4, rfl, rfl, rfl, h0, h1, h2, h3, h4⟩ := all5 hA
  obtain ⟨rfl, rfl⟩ := trodVars_none hV
  clear hA0 hval0
  have hlt0 : ∀ x ∈ p0, x.block < W.heap.size := fun x hx => by simpa using hW'.lt x (by simp [hx])
  have hlt1 : ∀ x ∈ p1, x.block < W.heap.size := fun x hx => by simpa using hW'.lt x (by simp [hx])
  have hlt2 : ∀ x ∈ p2, x.block < W.heap.size := fun x hx => by simpa using hW'.lt x (by simp [hx])
  have hlt3 : ∀ x ∈ p3, x.block < W.heap.size := fun x hx => by simpa using hW'.lt x (by simp [hx])
  have hlt4 : ∀ x ∈ p4, x.block < W.heap.size := fun x hx => by simpa using hW'.lt x (by simp [hx])
  obtain ⟨fuel0, hf0⟩ := id h0
  obtain ⟨sa0, len0, cap0, rfl⟩ := okWide_slice Tryz.underlying22 (hval 0 22 v0 rfl rfl)
  obtain ⟨level, rfl⟩ := okWide_int Tryz.underlying3 (hval 1 3 v1 rfl rfl)
  obtain ⟨key, rfl⟩ := okWide_int Tryz.underlying23 (hval 2 23 v2 rfl rfl)
  obtain ⟨vals, rfl⟩ := okWide_bool Tryz.underlying4 (hval 3 4 v3 rfl rfl)
  obtain ⟨fuel3, hf3⟩ := id h4
  obtain ⟨sc0, len3, cap3, rfl⟩ := okWide_slice Tryz.underlying24 (hval 4 24 v4 rfl rfl)
  obtain ⟨sc, ln3, cp3, hcs3, hlen3, hrec3⟩ := open_recs (n := 4) Tryz.underlying24 (by kernel_rfl : flat Tryz.prog 4 60 = some [.i .i64, .i .i64, .i .i64, .i .i64, .i .u64]) (by kernel_rfl) (by decide) hf3
  have hcs3' : sc0 = sc ∧ len3 = ln3 ∧ cap3 = cp3 := by simpa [Value.cells] using hcs3
  obtain ⟨rfl, rfl, rfl⟩ := hcs3'
  obtain ⟨acts, hal3, hb3, hok3⟩ := rows_of act_of rfl W sc0 len3 hrec3
  subst hal3
  have hlen3' : acts.length ≤ 9223372036854775807 := by simp only [maxLen] at hlen3; omega
  obtain ⟨sa, len, cap, hcs, hlen, hrec⟩ := open_recs (n := 3) Tryz.underlying22 (by kernel_rfl : flat Tryz.prog 3 105 = some [.i .i64, .i .u64, .i .u64, .b]) (by kernel_rfl) (by decide) hf0
  have hcs' : sa0 = sa ∧ len0 = len ∧ cap0 = cap := by simpa [Value.cells] using hcs
  obtain ⟨rfl, rfl, rfl⟩ := hcs'
  obtain ⟨L, hal, hb, hok⟩ := rows_of node_of rfl W sa0 len0 hrec
  subst hal
  have hlen' : L.length ≤ 9223372036854775807 := by simp only [maxLen] at hlen; omega
  refine (law15_SeekExact W sa0 cap0 L level key vals sc0 cap3 acts hb hlen' hok hb3 hlen3' hok3).law.mono ?_
  rintro e W' ⟨rfl, hbelow⟩
  refine ⟨_, rfl, _, _, _, [] ++ [], p0 ++ (p1 ++ (p2 ++ (p3 ++ p4))), [], hW', ?_, ?_, rfl, hbelow.frame _, fun h => by cases h⟩
  · exact trodAll_mk1 (shut_bool Tryz.underlying4 true)
  · exact mk5 (Below.trod Tryz.laidOut (by kernel_rfl) (of_decide_eq_true (by kernel_rfl)) h0 hbelow hlt0) (Below.trod Tryz.laidOut (by kernel_rfl) (of_decide_eq_true (by kernel_rfl)) h1 hbelow hlt1) (Below.trod Tryz.laidOut (by kernel_rfl) (of_decide_eq_true (by kernel_rfl)) h2 hbelow hlt2) (Below.trod Tryz.laidOut (by kernel_rfl) (of_decide_eq_true (by kernel_rfl)) h3 hbelow hlt3) (Below.trod Tryz.laidOut (by kernel_rfl) (of_decide_eq_true (by kernel_rfl)) h4 hbelow hlt4)

theorem seekExact_holds : Rows.SeekExactSaid :=
  OpenClaim.holds_of_wide 4 Tryz.f4 rfl rfl rfl rfl rfl rfl rfl ⟨rfl, rfl, rfl, rfl, rfl⟩ rfl rfl rfl rfl rfl (by kernel_rfl) Tryz.func4 (by kernel_rfl)
    (of_decide_eq_true (by kernel_rfl)) (by unfold Func.isWrapper; first | (rw [if_pos (by decide +kernel)]; kernel_rfl) | (rw [if_neg (by decide +kernel)]; exact ⟨rfl, rfl⟩))
    (fun os started H enc _ => seekExact_lifted os started H enc)
#print axioms seekExact_holds
end Go.Proofs.YtbfplncdmbjjhaaGreat
