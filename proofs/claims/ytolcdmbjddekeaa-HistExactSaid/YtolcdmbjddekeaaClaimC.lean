/-
  The statement of calls out of events: for every row of events the law answers true, and its input reads as it did. No condition.
-/
import Derived.Test.YtolcdmbjddekeaaRows
import Derived.Test.YtolcdmbjddekeaaH8
import Derived.Test.YtolcdmbjddekeaaFl2
set_option linter.unusedSimpArgs false
set_option linter.unusedVariables false
namespace Go.Proofs.Ytolcdmbjddekeaa
open Go Go.SL Go.ChangeShapes Go.WideShapes Go.ChangeAt Go.RowKit

theorem Try.own : ownKnob Try.prog.godebug = none := by kernel_rfl
theorem Try.laidOut : laidOutB Try.prog = true := by kernel_rfl

theorem event_of (cs : List Value) (h : Fits [.i .i64, .i .i64, .b, .i .i64, .i .u64, .i .u64, .i .i64, .i .i64, .b, .b, .i .i64, .b, .i .u64] cs) : ∃ d : HEv, True ∧ layV.enc d = cs := by
  obtain ⟨hl, hf⟩ := h
  obtain ⟨_, e0, x0, rfl, _⟩ := hf 0 _ rfl
  obtain ⟨_, e1, x1, rfl, _⟩ := hf 1 _ rfl
  obtain ⟨_, e2, x2, rfl⟩ := hf 2 _ rfl
  obtain ⟨_, e3, x3, rfl, _⟩ := hf 3 _ rfl
  obtain ⟨_, e4, x4, rfl, _⟩ := hf 4 _ rfl
  obtain ⟨_, e5, x5, rfl, _⟩ := hf 5 _ rfl
  obtain ⟨_, e6, x6, rfl, _⟩ := hf 6 _ rfl
  obtain ⟨_, e7, x7, rfl, _⟩ := hf 7 _ rfl
  obtain ⟨_, e8, x8, rfl⟩ := hf 8 _ rfl
  obtain ⟨_, e9, x9, rfl⟩ := hf 9 _ rfl
  obtain ⟨_, e10, x10, rfl, _⟩ := hf 10 _ rfl
  obtain ⟨_, e11, x11, rfl⟩ := hf 11 _ rfl
  obtain ⟨_, e12, x12, rfl, _⟩ := hf 12 _ rfl
  refine ⟨⟨x0, x1, x2, ⟨x3, x4, x5, x6⟩, x7, x8, x9, ⟨x10, x11, x12⟩⟩, trivial, ?_⟩
  match cs, hl with
  | [c0, c1, c2, c3, c4, c5, c6, c7, c8, c9, c10, c11, c12], _ =>
    simp only [List.getElem?_cons_zero, List.getElem?_cons_succ, Option.some.injEq] at e0 e1 e2 e3 e4 e5 e6 e7 e8 e9 e10 e11 e12
    subst e0 e1 e2 e3 e4 e5 e6 e7 e8 e9 e10 e11 e12
    rfl

set_option maxRecDepth 100000 in
theorem histExact_lifted (os : Os) (started : os.Started) (H : Type) (enc : TypeId × Value → H) :
    ReturnsInHanded {} Try.checked os 3 .any (Rows.histExactSpec.pre6 enc Try.prog Try.f3 Rows.histExactRow.domain false) (Rows.histExactSpec.post enc Try.prog Try.f3 false true false false) := by
  refine returnsInHanded_of_change (C := Try.checked) Try.own started (by kernel_rfl) Try.func3
    (ChangeSpec.witness6 (enc := enc) (C := Try.checked) false ⟨#[], #[.slice none 0 0], []⟩ 8 (by kernel_rfl) (by kernel_rfl) (by kernel_rfl) (by kernel_rfl)) ?_
  intro W base args ds gs before hval0 hW hcnd _
  have hval : ∀ (j : Nat) t v, Try.f3.params[j]? = some t → args[j]? = some v → Value.okWide Try.prog W .any base t v := hval0
  have hW' := hW
  obtain ⟨p, q, hA0, hV, rfl, hfz, hnd⟩ := hW
  have hA : DataW.TrodAll enc Try.prog W 0 (fun _ => true) true Try.f3.params.toList args.toList ds p := hA0
  rw [Try.params3] at hA hval
  obtain ⟨v0, d0, rfl, rfl, h0⟩ := trodAll_one hA
  obtain ⟨rfl, rfl⟩ := trodVars_none hV
  clear hA0 hval0
  have hlt0 : ∀ x ∈ p, x.block < W.heap.size := fun x hx => by simpa using hW'.lt x (by simp [hx])
  obtain ⟨fuel0, hf0⟩ := id h0
  obtain ⟨sa0, len0, cap0, rfl⟩ := okWide_slice Try.underlying22 (hval 0 22 v0 rfl rfl)
  obtain ⟨sa, len, cap, hcs, hlen, hrec⟩ := open_recs (n := 3) Try.underlying22 (by kernel_rfl : flat Try.prog 3 32 = some [.i .i64, .i .i64, .b, .i .i64, .i .u64, .i .u64, .i .i64, .i .i64, .b, .b, .i .i64, .b, .i .u64]) (by kernel_rfl) (by decide) hf0
  have hcs' : sa0 = sa ∧ len0 = len ∧ cap0 = cap := by simpa [Value.cells] using hcs
  obtain ⟨rfl, rfl, rfl⟩ := hcs'
  obtain ⟨L, hal, hb, hok⟩ := rows_of event_of rfl W sa0 len0 hrec
  subst hal
  have hlen' : L.length ≤ 9223372036854775807 := by simp only [maxLen] at hlen; omega
  refine (law24_HistExact W sa0 cap0 L hb hlen').law.mono ?_
  rintro e W' ⟨rfl, hbelow⟩
  refine ⟨_, rfl, _, _, _, [] ++ [], p, [], hW', ?_, ?_, rfl, hbelow.frame _, fun h => by cases h⟩
  · exact trodAll_mk1 (shut_bool Try.underlying4 true)
  · exact trodAll_mk1 (Below.trod Try.laidOut (by kernel_rfl) (of_decide_eq_true (by kernel_rfl)) h0 hbelow hlt0)

theorem histExact_holds : Rows.HistExactSaid :=
  OpenClaim.holds_of_wide 3 Try.f3 rfl rfl rfl rfl rfl rfl rfl ⟨rfl, rfl, rfl, rfl, rfl⟩ rfl rfl rfl rfl rfl (by kernel_rfl) Try.func3 (by kernel_rfl)
    (of_decide_eq_true (by kernel_rfl)) (by unfold Func.isWrapper; first | (rw [if_pos (by decide +kernel)]; kernel_rfl) | (rw [if_neg (by decide +kernel)]; exact ⟨rfl, rfl⟩))
    (fun os started H enc _ => histExact_lifted os started H enc)
#print axioms histExact_holds
end Go.Proofs.Ytolcdmbjddekeaa
