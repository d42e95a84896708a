/-
  Arguments opened: flat records, rows of records; what a law that answers true owes at its end.
-/
import Derived.ProofKit
import Derived.Deep.Slices
import Derived.KernelRfl
import Derived.Test.YtbfplncdmbjjhaaGreatRow
set_option linter.unusedSimpArgs false
set_option linter.unusedVariables false
namespace Go.SL

inductive Lf where
  | i (k : IntKind)
  | b
def Lf.ok : Lf → Value → Prop
  | .i k, v => ∃ n, v = .int k n ∧ (Lit.int k n).wf = true
  | .b, v => ∃ c, v = .bool c

def flatF (P : Program) (g : TypeId → Option (List Lf)) : List Field → Nat → Option (List Lf)
  | [], _ => some []
  | f :: r, off =>
    if f.offset = off then
      match g f.type with
      | none => none
      | some a =>
        if P.cellsOf f.type = a.length then
          match flatF P g r (off + a.length) with
          | none => none
          | some l => some (a ++ l)
        else none
    else none

/-- The cells of a flat type. -/
def flat (P : Program) : Nat → TypeId → Option (List Lf)
  | 0, _ => none
  | n + 1, t =>
    match P.underlying t with
    | some (.int k) => some [.i k]
    | some .bool => some [.b]
    | some (.struct fs) =>
      match flatF P (flat P n) fs.toList 0 with
      | none => none
      | some ls => if P.cellsOf t = ls.length then some ls else none
    | _ => none

section
variable {H : Type} {enc : TypeId × Value → H} {P : Program} {w : World} {base : Nat} {spare : Nat → Bool} {held : Bool}

def Fits (ls : List Lf) (cs : List Value) : Prop := cs.length = ls.length ∧ ∀ (i : Nat) l, ls[i]? = some l → ∃ v, cs[i]? = some v ∧ l.ok v

theorem flatF_fits {g : TypeId → Option (List Lf)} {fuel : Nat} {cs : List Value} (hg : ∀ t ls, g t = some ls → ∀ fuel cs x, DataW.trod enc P w base spare held fuel t cs = some x → Fits ls cs) :
    ∀ (l : List Field) (off : Nat) (ls : List Lf), flatF P g l off = some ls → (∀ f, f ∈ l → ∃ x, DataW.trod enc P w base spare held fuel f.type ((cs.drop f.offset).take (P.cellsOf f.type)) = some x) →
      ∀ (i : Nat) l', ls[i]? = some l' → ∃ v, cs[off + i]? = some v ∧ l'.ok v
  | [], off, ls, h, _, i, l', hi => by simp only [flatF, Option.some.injEq] at h; subst h; simp at hi
  | f :: r, off, ls, h, hx, i, l', hi => by
    simp only [flatF] at h
    split at h
    · rename_i hoff
      split at h
      · cases h
      · rename_i a ha
        split at h
        · rename_i hc
          split at h
          · cases h
          · rename_i b hb
            simp only [Option.some.injEq] at h
            subst h
            obtain ⟨x, hxf⟩ := hx f (List.mem_cons_self ..)
            have hfit := hg _ _ ha _ _ _ hxf
            by_cases hlt : i < a.length
            · rw [List.getElem?_append_left hlt] at hi
              obtain ⟨v, hv, hok⟩ := hfit.2 i l' hi
              rw [List.getElem?_take] at hv
              split at hv
              · rw [List.getElem?_drop, hoff] at hv
                exact ⟨v, hv, hok⟩
              · cases hv
            · rw [List.getElem?_append_right (by omega)] at hi
              obtain ⟨v, hv, hok⟩ := flatF_fits hg r (off + a.length) b hb (fun f' hf' => hx f' (List.mem_cons_of_mem _ hf')) (i - a.length) l' hi
              rw [show off + a.length + (i - a.length) = off + i by omega] at hv
              exact ⟨v, hv, hok⟩
        · cases h
    · cases h

theorem flat_fits : ∀ (n : Nat) (t : TypeId) (ls : List Lf), flat P n t = some ls → ∀ fuel cs x, DataW.trod enc P w base spare held fuel t cs = some x → Fits ls cs
  | 0, _, _, h, _, _, _, _ => by cases h
  | n + 1, t, ls, h, fuel, cs, x, hx => by
    simp only [flat] at h
    split at h
    · rename_i k hu
      obtain ⟨m, rfl, _, hw⟩ := DataW.trod_int hu hx
      simp only [Option.some.injEq] at h
      subst h
      refine ⟨rfl, fun i l hi => ?_⟩
      cases i with
      | zero => simp only [List.getElem?_cons_zero, Option.some.injEq] at hi; subst hi; exact ⟨_, rfl, m, rfl, hw⟩
      | succ i => simp at hi
    · rename_i hu
      obtain ⟨c, rfl, _⟩ := DataW.trod_bool hu hx
      simp only [Option.some.injEq] at h
      subst h
      refine ⟨rfl, fun i l hi => ?_⟩
      cases i with
      | zero => simp only [List.getElem?_cons_zero, Option.some.injEq] at hi; subst hi; exact ⟨_, rfl, c, rfl⟩
      | succ i => simp at hi
    · rename_i fs hu
      split at h
      · cases h
      · rename_i ls' hls
        split at h
        · rename_i hc
          simp only [Option.some.injEq] at h
          subst h
          obtain ⟨xs, m, _, _, hlen, hxl, hg⟩ := DataW.trod_struct hu hx
          refine ⟨hlen.trans hc, fun i l hi => ?_⟩
          have := flatF_fits (cs := cs) (fuel := m) (flat_fits n) fs.toList 0 ls' hls (fun f hf => ?_) i l hi
          · simpa using this
          · obtain ⟨j, hj⟩ := List.getElem?_of_mem hf
            have hj' : fs[j]? = some f := by simpa using hj
            have hjl : j < fs.size := (Array.getElem?_eq_some_iff.1 hj').1
            have := hg j f hj'
            rw [List.getElem?_eq_getElem (by omega)] at this
            exact ⟨_, this⟩
        · cases h
    · cases h

/-- A slice of flat records. -/
theorem open_recs {t e : TypeId} {n fuel : Nat} {ls : List Lf} {cs : List Value} {x : DataW H × List MemPlace} (ht : P.underlying t = some (.slice e)) (hfl : flat P n e = some ls) (hC : P.cellsOf e = ls.length) (hpos : 0 < ls.length)
    (h : DataW.trod enc P w base spare held fuel t cs = some x) :
    ∃ sa len cap, cs = [.slice sa len cap] ∧ len ≤ maxLen ∧ ∀ i, i < len → ∃ b off cs', sa = some ⟨b, off, none⟩ ∧ Fits ls cs' ∧ ∀ (j : Nat) u, cs'[j]? = some u → w.cell? ⟨b, off + (i * ls.length + j), none⟩ = some u := by
  rcases Go.Deep.open_slice ht h with ⟨rfl, _⟩ | ⟨a, len, cap, m, n', D, Pl, rfl, _, hl, hm, hmm, _, hi⟩
  · exact ⟨none, 0, 0, rfl, Nat.zero_le _, fun i h => by omega⟩
  · have hmlen : len ≤ m := by rw [hmm]; split <;> omega
    refine ⟨some a, len, cap, rfl, Nat.le_trans hl hm, fun i him => ?_⟩
    obtain ⟨c0, hc0, ht0⟩ := hi 0 (by omega)
    obtain ⟨_, hl0, hat0⟩ := World.cells?_some hc0
    have hspot : a.spot = none := by
      have h1 := hat0 0 (by omega)
      rw [List.getElem?_eq_getElem (by omega)] at h1
      have h2 : (a.add (0 * P.cellsOf e)).add 0 = a := by simp [Addr.add]
      rw [h2] at h1
      unfold World.cell? at h1
      split at h1
      · split at h1
        · cases h1
        · rename_i hs
          cases hsp : a.spot with
          | none => rfl
          | some s => simp [hsp] at hs
      · cases h1
    obtain ⟨b, off, spot⟩ := a
    simp only at hspot
    subst hspot
    obtain ⟨c, hc, htr⟩ := hi i (by omega)
    obtain ⟨_, hcl, hat⟩ := World.cells?_some hc
    have hfit := flat_fits n e ls hfl _ _ _ htr
    refine ⟨b, off, c, rfl, hfit, fun j u hj => ?_⟩
    have hjl : j < c.length := (List.getElem?_eq_some_iff.1 hj).1
    have := hat j (by omega)
    rw [hj, Go.Deep.add_add, hC, Addr_add] at this
    exact this
end

theorem Inv.start (w : World) : Inv w (dom []) [] w :=
  ⟨fun b o hm => by simp at hm, by simp [dom], fun b hb => by simp [dom] at hb, fun _ _ _ => rfl, Nat.le_refl _, rfl, rfl, rfl⟩

theorem Inv.below {B w : World} {ctx : Ctx} (h : Inv B (dom []) ctx w) : Go.RowKit.Below B.heap.size B w :=
  ⟨h.os, h.tape, h.output, h.size, fun k hk => h.kept k hk (by simp [dom])⟩

/-- The end of a law. -/
theorem Ctr.law {P : Program} {f : FuncId} {args : List Value} {w : World} (h : Ctr P f args w [] (fun u c => u = .bool true ∧ c = [])) : Calls P f args.toArray w fun e w' => e = .returned (.bool true) ∧ Go.RowKit.Below w.heap.size w w' :=
  (h (Inv.start w)).mono fun e w' ⟨v, c, he, hi, hv, _⟩ => ⟨by rw [he, hv], hi.below⟩
end Go.SL
