/-
  The statement of the core: for every structure and every row of deeds the law answers true, and its input reads as it did.
-/
import Derived.Test.YtaphhhnnplljdaaRows
import Derived.Test.YtaphhhnnplljdaaLC
import Derived.Test.YtaphhhnnplljdaaFl
set_option linter.unusedSimpArgs false
set_option linter.unusedVariables false
namespace Go.Proofs.Ytaphhhnnplljdaa
open Go Go.SL Go.ChangeShapes Go.WideShapes Go.ChangeAt Go.RowKit

theorem Try.own : ownKnob Try.prog.godebug = none := by kernel_rfl
theorem Try.laidOut : laidOutB Try.prog = true := by kernel_rfl

theorem wf_u64 {n : Int} (h : (Lit.int .u64 n).wf = true) : 0 ≤ n ∧ n < 18446744073709551616 := by
  simp only [Lit.wf, Bool.and_eq_true, decide_eq_true_eq] at h
  have h1 : IntKind.u64.min = 0 := by decide
  have h2 : IntKind.u64.max = 18446744073709551615 := by decide
  rw [h1, h2] at h
  omega

theorem deed_of {cs : List Value} (h : Fits [.i .i64, .i .u64, .i .i64, .i .i64, .i .u64, .i .i64, .b] cs) : ∃ d : Deed, d.ok ∧ Deed.l d = cs := by
  obtain ⟨hl, hf⟩ := h
  obtain ⟨_, e0, x0, rfl, _⟩ := hf 0 _ rfl
  obtain ⟨_, e1, x1, rfl, w1⟩ := hf 1 _ rfl
  obtain ⟨_, e2, x2, rfl, _⟩ := hf 2 _ rfl
  obtain ⟨_, e3, x3, rfl, _⟩ := hf 3 _ rfl
  obtain ⟨_, e4, x4, rfl, w4⟩ := hf 4 _ rfl
  obtain ⟨_, e5, x5, rfl, _⟩ := hf 5 _ rfl
  obtain ⟨_, e6, x6, rfl⟩ := hf 6 _ rfl
  refine ⟨⟨x0, x1, ⟨x2, x3⟩, ⟨x4, x5, x6⟩⟩, ⟨wf_u64 w1, wf_u64 w4⟩, ?_⟩
  match cs, hl with
  | [c0, c1, c2, c3, c4, c5, c6], _ =>
    simp only [List.getElem?_cons_zero, List.getElem?_cons_succ, Option.some.injEq] at e0 e1 e2 e3 e4 e5 e6
    subst e0 e1 e2 e3 e4 e5 e6
    rfl

theorem conf_of {cs : List Value} (h : Fits [.i .i64, .i .i64, .i .i64, .i .i64, .i .i64] cs) : ∃ x : Conf, (#[.int .i64 x.kind, .int .i64 x.slots, .int .i64 x.buckets, .int .i64 x.height, .int .i64 x.limit] : Array Value).toList = cs := by
  obtain ⟨hl, hf⟩ := h
  obtain ⟨_, e0, x0, rfl, _⟩ := hf 0 _ rfl
  obtain ⟨_, e1, x1, rfl, _⟩ := hf 1 _ rfl
  obtain ⟨_, e2, x2, rfl, _⟩ := hf 2 _ rfl
  obtain ⟨_, e3, x3, rfl, _⟩ := hf 3 _ rfl
  obtain ⟨_, e4, x4, rfl, _⟩ := hf 4 _ rfl
  refine ⟨⟨x0, x1, x2, x3, x4⟩, ?_⟩
  match cs, hl with
  | [c0, c1, c2, c3, c4], _ =>
    simp only [List.getElem?_cons_zero, List.getElem?_cons_succ, Option.some.injEq] at e0 e1 e2 e3 e4
    subst e0 e1 e2 e3 e4
    rfl

theorem base_row (W : World) (sa : Option Addr) (len : Nat)
    (h : ∀ i, i < len → ∃ b off cs', sa = some ⟨b, off, none⟩ ∧ Fits [.i .i64, .i .u64, .i .i64, .i .i64, .i .u64, .i .i64, .b] cs' ∧ ∀ (j : Nat) u, cs'[j]? = some u → W.cell? ⟨b, off + (i * 7 + j), none⟩ = some u) :
    ∃ acts : List Deed, acts.length = len ∧ BaseRow layD W sa acts ∧ ∀ a, a ∈ acts → a.ok := by
  have hd : ∀ i : Fin len, ∃ d : Deed, d.ok ∧ ∃ b off, sa = some ⟨b, off, none⟩ ∧ ∀ (j : Nat) u, (Deed.l d)[j]? = some u → W.cell? ⟨b, off + (i.val * 7 + j), none⟩ = some u := by
    intro i
    obtain ⟨b, off, cs', e, hf, hc⟩ := h i.val i.isLt
    obtain ⟨d, hok, hl⟩ := deed_of hf
    exact ⟨d, hok, b, off, e, fun j u hj => hc j u (by rw [← hl]; exact hj)⟩
  refine ⟨List.ofFn fun i => Classical.choose (hd i), List.length_ofFn, ?_, ?_⟩
  · intro i a ha
    rw [List.getElem?_ofFn] at ha
    split at ha
    · rename_i hi
      simp only [Option.some.injEq] at ha
      subst ha
      exact (Classical.choose_spec (hd ⟨i, hi⟩)).2
    · cases ha
  · intro a ha
    obtain ⟨i, rfl⟩ := List.mem_ofFn.1 ha
    exact (Classical.choose_spec (hd i)).1

set_option maxRecDepth 100000 in
theorem coreExact_lifted (os : Os) (started : os.Started) (H : Type) (enc : TypeId × Value → H) :
    ReturnsInHanded {} Try.checked os 3 .any (Rows.coreExactSpec.pre6 enc Try.prog Try.f3 Rows.coreExactRow.domain false) (Rows.coreExactSpec.post enc Try.prog Try.f3 false true false false) := by
  refine returnsInHanded_of_change (C := Try.checked) Try.own started (by kernel_rfl) Try.func3
    (ChangeSpec.witness6 (enc := enc) (C := Try.checked) false ⟨#[], #[.agg #[.int .i64 0, .int .i64 0, .int .i64 0, .int .i64 0, .int .i64 0], .slice none 0 0], []⟩ 8 (by kernel_rfl) (by kernel_rfl) (by kernel_rfl) (by kernel_rfl)) ?_
  intro W base args ds gs before hval0 hW hcnd _
  have hval : ∀ (j : Nat) t v, Try.f3.params[j]? = some t → args[j]? = some v → Value.okWide Try.prog W .any base t v := hval0
  have hW' := hW
  obtain ⟨p, q, hA0, hV, rfl, hfz, hnd⟩ := hW
  have hA : DataW.TrodAll enc Try.prog W 0 (fun _ => true) true Try.f3.params.toList args.toList ds p := hA0
  rw [Try.params3] at hA hval
  obtain ⟨v0, v1, d0, d1, p0, p1, rfl, rfl, rfl, h0, h1⟩ := trodAll_two hA
  obtain ⟨rfl, rfl⟩ := trodVars_none hV
  clear hA0 hval0
  have hlt0 : ∀ x ∈ p0, x.block < W.heap.size := fun x hx => by simpa using hW'.lt x (by simp [hx])
  have hlt1 : ∀ x ∈ p1, x.block < W.heap.size := fun x hx => by simpa using hW'.lt x (by simp [hx])
  obtain ⟨fuel0, hf0⟩ := id h0
  obtain ⟨fuel1, hf1⟩ := id h1
  obtain ⟨⟨cs0⟩, rfl, hsz⟩ := okWide_struct (show Try.prog.underlying 23 = some (.struct _) from Try.underlying23) (hval 0 23 v0 rfl rfl)
  obtain ⟨x, hx⟩ := conf_of (flat_fits 3 23 _ (by kernel_rfl) _ _ _ hf0)
  obtain ⟨sa0, len0, cap0, rfl⟩ := okWide_slice Try.underlying24 (hval 1 24 v1 rfl rfl)
  obtain ⟨sa, len, cap, hcs, hlen, hrec⟩ := open_recs (n := 3) Try.underlying24 (by kernel_rfl : flat Try.prog 3 47 = some [.i .i64, .i .u64, .i .i64, .i .i64, .i .u64, .i .i64, .b]) (by kernel_rfl) (by decide) hf1
  have hx' : cs0 = [.int .i64 x.kind, .int .i64 x.slots, .int .i64 x.buckets, .int .i64 x.height, .int .i64 x.limit] := by simpa [Value.cells] using hx.symm
  subst hx'
  have hcs' : sa0 = sa ∧ len0 = len ∧ cap0 = cap := by simpa [Value.cells] using hcs
  obtain ⟨rfl, rfl, rfl⟩ := hcs'
  obtain ⟨acts, hal, hb, hok⟩ := base_row W sa0 len0 hrec
  subst hal
  have hlen' : acts.length ≤ 9223372036854775807 := by simp only [maxLen] at hlen; omega
  refine (law13_CoreExact W x sa0 cap0 acts hb hok hlen').law.mono ?_
  rintro e W' ⟨rfl, hbelow⟩
  refine ⟨_, rfl, _, _, _, [] ++ [], p0 ++ p1, [], hW', ?_, ?_, rfl, hbelow.frame _, fun h => by cases h⟩
  · exact trodAll_mk1 (shut_bool Try.underlying4 true)
  · exact trodAll_mk2 (Below.trod Try.laidOut (by kernel_rfl) (of_decide_eq_true (by kernel_rfl)) h0 hbelow hlt0) (Below.trod Try.laidOut (by kernel_rfl) (of_decide_eq_true (by kernel_rfl)) h1 hbelow hlt1)

theorem coreExact_holds : Rows.CoreExactSaid :=
  OpenClaim.holds_of_wide 3 Try.f3 rfl rfl rfl rfl rfl rfl rfl ⟨rfl, rfl, rfl, rfl, rfl⟩ rfl rfl rfl rfl rfl (by kernel_rfl) Try.func3 (by kernel_rfl)
    (of_decide_eq_true (by kernel_rfl)) (by unfold Func.isWrapper; first | (rw [if_pos (by decide +kernel)]; kernel_rfl) | (rw [if_neg (by decide +kernel)]; exact ⟨rfl, rfl⟩))
    (fun os started H enc _ => coreExact_lifted os started H enc)
end Go.Proofs.Ytaphhhnnplljdaa
