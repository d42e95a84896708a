/-
  Rows of flat records that come in, as data.
-/
import Derived.Test.YtbfplncdmbjjhaaGreatFl
set_option linter.unusedSimpArgs false
set_option linter.unusedVariables false
namespace Go.SL
theorem rows_of {α : Type} {Y : Lay α} {ok : α → Prop} {ls : List Lf} (dec : ∀ cs, Fits ls cs → ∃ a, ok a ∧ Y.enc a = cs) (hsz : ls.length = Y.size) (W : World) (sa : Option Addr) (len : Nat)
    (h : ∀ i, i < len → ∃ b off cs', sa = some ⟨b, off, none⟩ ∧ Fits ls cs' ∧ ∀ (j : Nat) u, cs'[j]? = some u → W.cell? ⟨b, off + (i * ls.length + j), none⟩ = some u) :
    ∃ L : List α, L.length = len ∧ BaseRow Y W sa L ∧ ∀ a, a ∈ L → ok a := by
  have hd : ∀ i : Fin len, ∃ d : α, ok d ∧ ∃ b off, sa = some ⟨b, off, none⟩ ∧ ∀ (j : Nat) u, (Y.enc d)[j]? = some u → W.cell? ⟨b, off + (i.val * Y.size + j), none⟩ = some u := by
    intro i
    obtain ⟨b, off, cs', e, hf, hc⟩ := h i.val i.isLt
    obtain ⟨d, hok, hl⟩ := dec cs' hf
    exact ⟨d, hok, b, off, e, fun j u hj => by rw [← hsz]; exact hc j u (by rw [← hl]; exact hj)⟩
  refine ⟨List.ofFn fun i => Classical.choose (hd i), List.length_ofFn, ?_, ?_⟩
  · intro i a ha
    rw [List.getElem?_ofFn] at ha
    split at ha
    · rename_i hi
      simp only [Option.some.injEq] at ha
      subst ha
      exact (Classical.choose_spec (hd ⟨i, hi⟩)).2
    · cases ha
  · intro a ha
    obtain ⟨i, rfl⟩ := List.mem_ofFn.1 ha
    exact (Classical.choose_spec (hd i)).1
theorem wf_u64 {n : Int} (h : (Lit.int .u64 n).wf = true) : 0 ≤ n ∧ n < 18446744073709551616 := by
  simp only [Lit.wf, Bool.and_eq_true, decide_eq_true_eq] at h
  have h1 : IntKind.u64.min = 0 := by decide
  have h2 : IntKind.u64.max = 18446744073709551615 := by decide
  rw [h1, h2] at h
  omega
end Go.SL
