/-
  The statement 'ahead is an order': for any four calls the law answers true, and its input reads as it did. No condition.
-/
import Derived.Test.YtolcdmbjddekeaaRows
import Derived.Test.YtolcdmbjddekeaaH6
import Derived.Test.YtolcdmbjddekeaaFl
import Derived.Carry
set_option linter.unusedSimpArgs false
set_option linter.unusedVariables false
namespace Go.Proofs.Ytolcdmbjddekeaa
open Go Go.SL Go.ChangeShapes Go.WideShapes Go.ChangeAt Go.RowKit

theorem Try.own : ownKnob Try.prog.godebug = none := by kernel_rfl
theorem Try.laidOut : laidOutB Try.prog = true := by kernel_rfl

theorem hcall_of {cs : List Value} (h : Fits [.i .i64, .i .i64, .i .i64, .i .u64, .i .u64, .i .i64, .i .i64, .i .i64, .i .i64, .b, .i .u64] cs) : ∃ c : HCall, HCall.l c = cs := by
  obtain ⟨hl, hf⟩ := h
  obtain ⟨_, e0, x0, rfl, _⟩ := hf 0 _ rfl
  obtain ⟨_, e1, x1, rfl, _⟩ := hf 1 _ rfl
  obtain ⟨_, e2, x2, rfl, _⟩ := hf 2 _ rfl
  obtain ⟨_, e3, x3, rfl, _⟩ := hf 3 _ rfl
  obtain ⟨_, e4, x4, rfl, _⟩ := hf 4 _ rfl
  obtain ⟨_, e5, x5, rfl, _⟩ := hf 5 _ rfl
  obtain ⟨_, e6, x6, rfl, _⟩ := hf 6 _ rfl
  obtain ⟨_, e7, x7, rfl, _⟩ := hf 7 _ rfl
  obtain ⟨_, e8, x8, rfl, _⟩ := hf 8 _ rfl
  obtain ⟨_, e9, x9, rfl⟩ := hf 9 _ rfl
  obtain ⟨_, e10, x10, rfl, _⟩ := hf 10 _ rfl
  refine ⟨⟨x0, x1, ⟨x2, x3, x4, x5⟩, x6, x7, ⟨x8, x9, x10⟩⟩, ?_⟩
  match cs, hl with
  | [c0, c1, c2, c3, c4, c5, c6, c7, c8, c9, c10], _ =>
    simp only [List.getElem?_cons_zero, List.getElem?_cons_succ, Option.some.injEq] at e0 e1 e2 e3 e4 e5 e6 e7 e8 e9 e10
    subst e0 e1 e2 e3 e4 e5 e6 e7 e8 e9 e10
    rfl

def zeroH : Value := .agg #[.int .i64 0, .int .i64 0, .int .i64 0, .int .u64 0, .int .u64 0, .int .i64 0, .int .i64 0, .int .i64 0, .int .i64 0, .bool false, .int .u64 0]

set_option maxRecDepth 100000 in
theorem histAhead_lifted (os : Os) (started : os.Started) (H : Type) (enc : TypeId × Value → H) :
    ReturnsInHanded {} Try.checked os 4 .any (Rows.histAheadSpec.pre6 enc Try.prog Try.f4 Rows.histAheadRow.domain false) (Rows.histAheadSpec.post enc Try.prog Try.f4 false true false false) := by
  refine returnsInHanded_of_change (C := Try.checked) Try.own started (by kernel_rfl) Try.func4
    (ChangeSpec.witness6 (enc := enc) (C := Try.checked) false ⟨#[], #[zeroH, zeroH, zeroH, zeroH], []⟩ 8 (by kernel_rfl) (by kernel_rfl) (by kernel_rfl) (by kernel_rfl)) ?_
  intro W base args ds gs before hval0 hW hcnd _
  have hval : ∀ (j : Nat) t v, Try.f4.params[j]? = some t → args[j]? = some v → Value.okWide Try.prog W .any base t v := hval0
  have hW' := hW
  obtain ⟨p, q, hA0, hV, rfl, hfz, hnd⟩ := hW
  have hA : DataW.TrodAll enc Try.prog W 0 (fun _ => true) true Try.f4.params.toList args.toList ds p := hA0
  rw [Try.params4] at hA hval
  obtain ⟨v0, v1, v2, v3, d0, d1, d2, d3, p0, p1, p2, p3, rfl, rfl, rfl, h0, h1, h2, h3⟩ := trodAll_four hA
  obtain ⟨rfl, rfl⟩ := trodVars_none hV
  clear hA0 hval0
  have hlt0 : ∀ x ∈ p0, x.block < W.heap.size := fun x hx => by simpa using hW'.lt x (by simp [hx])
  have hlt1 : ∀ x ∈ p1, x.block < W.heap.size := fun x hx => by simpa using hW'.lt x (by simp [hx])
  have hlt2 : ∀ x ∈ p2, x.block < W.heap.size := fun x hx => by simpa using hW'.lt x (by simp [hx])
  have hlt3 : ∀ x ∈ p3, x.block < W.heap.size := fun x hx => by simpa using hW'.lt x (by simp [hx])
  have one : ∀ (j : Nat) (v : Value) (d : DataW H) (pl : List MemPlace), Value.okWide Try.prog W .any base 44 v → DataW.Trod enc Try.prog W 0 (fun _ => true) true 44 v d pl → ∃ c : HCall, v = c.v := by
    intro j v d pl hv h
    obtain ⟨fuel, hf⟩ := id h
    obtain ⟨⟨cs⟩, rfl, hsz⟩ := okWide_struct (show Try.prog.underlying 44 = some (.struct _) from Try.underlying44) hv
    obtain ⟨c, hc⟩ := hcall_of (flat_fits 3 44 _ (by kernel_rfl) _ _ _ hf)
    refine ⟨c, ?_⟩
    have hc' : cs = HCall.l c := by simpa [Value.cells] using hc.symm
    subst hc'
    rfl
  obtain ⟨a, rfl⟩ := one 0 v0 d0 p0 (hval 0 44 v0 rfl rfl) h0
  obtain ⟨b, rfl⟩ := one 1 v1 d1 p1 (hval 1 44 v1 rfl rfl) h1
  obtain ⟨c, rfl⟩ := one 2 v2 d2 p2 (hval 2 44 v2 rfl rfl) h2
  obtain ⟨d, rfl⟩ := one 3 v3 d3 p3 (hval 3 44 v3 rfl rfl) h3
  refine (hist_HistAhead law24_awake W a b c d).law.mono ?_
  rintro e W' ⟨rfl, hbelow⟩
  refine ⟨_, rfl, _, _, _, [] ++ [], p0 ++ p1 ++ p2 ++ p3, [], hW', ?_, ?_, rfl, hbelow.frame _, fun h => by cases h⟩
  · exact trodAll_mk1 (shut_bool Try.underlying4 true)
  · have sh : ∀ {v : Value} {d : DataW H} {pl : List MemPlace}, DataW.Trod enc Try.prog W 0 (fun _ => true) true 44 v d pl → (∀ x ∈ pl, x.block < W.heap.size) → _ := fun h hlt => Below.trod Try.laidOut (t := 44) (by kernel_rfl) (of_decide_eq_true (by kernel_rfl)) h hbelow hlt
    have := trodAll_mk4 (sh h0 hlt0) (sh h1 hlt1) (sh h2 hlt2) (sh h3 hlt3)
    have ea : p0 ++ p1 ++ p2 ++ p3 = p0 ++ (p1 ++ (p2 ++ p3)) := by simp [List.append_assoc]
    rw [ea]
    exact this

theorem histAhead_holds : Rows.HistAheadSaid :=
  OpenClaim.holds_of_wide 4 Try.f4 rfl rfl rfl rfl rfl rfl rfl ⟨rfl, rfl, rfl, rfl, rfl⟩ rfl rfl rfl rfl rfl (by kernel_rfl) Try.func4 (by kernel_rfl)
    (of_decide_eq_true (by kernel_rfl)) (by unfold Func.isWrapper; first | (rw [if_pos (by decide +kernel)]; kernel_rfl) | (rw [if_neg (by decide +kernel)]; exact ⟨rfl, rfl⟩))
    (fun os started H enc _ => histAhead_lifted os started H enc)
#print axioms histAhead_holds
end Go.Proofs.Ytolcdmbjddekeaa
