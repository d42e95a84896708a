/-
  An element goes down a row to its place: the plain law.
-/
set_option linter.unusedSimpArgs false
set_option linter.unusedVariables false
namespace Go.SL
section
variable {α : Type} (lt : α → α → Bool)
/-- The element at k goes down as long as it is less than the one ahead of it. -/
def bub : List α → Nat → List α
  | L, 0 => L
  | L, k + 1 => match L[k + 1]?, L[k]? with
    | some x, some y => if lt x y then bub ((L.set (k + 1) y).set k x) k else L
    | _, _ => L

theorem bub_stop {L : List α} {k : Nat} {x y : α} (hx : L[k]? = some x) (hy : L[k - 1]? = some y) (h : (decide (0 < k) && lt x y) = false) : bub lt L k = L := by
  cases k with
  | zero => rfl
  | succ k =>
    simp only [Nat.add_sub_cancel] at hy
    simp at h
    unfold bub
    rw [hx, hy]
    simp [h]
theorem bub_go {L : List α} {k : Nat} {x y : α} (hx : L[k]? = some x) (hy : L[k - 1]? = some y) (h : (decide (0 < k) && lt x y) = true) : bub lt L k = bub lt ((L.set k y).set (k - 1) x) (k - 1) := by
  cases k with
  | zero => simp at h
  | succ k =>
    simp only [Nat.add_sub_cancel] at hy ⊢
    simp at h
    rw [bub, hx, hy]
    simp [h]

theorem swap_perm {L : List α} {k j : Nat} {x y : α} (hx : L[k]? = some x) (hy : L[j]? = some y) : ((L.set k y).set j x).Perm L := by
  obtain ⟨h1, h1'⟩ := List.getElem?_eq_some_iff.1 hx
  obtain ⟨h2, h2'⟩ := List.getElem?_eq_some_iff.1 hy
  have := List.set_set_perm h1 h2
  rw [h1', h2'] at this
  exact this

theorem bub_perm : ∀ (k : Nat) (L : List α), (bub lt L k).Perm L
  | 0, L => List.Perm.refl _
  | k + 1, L => by
    rw [bub]
    split
    · rename_i x y hx hy
      split
      · exact (bub_perm k _).trans (swap_perm hx hy)
      · exact List.Perm.refl _
    · exact List.Perm.refl _
theorem bub_length (k : Nat) (L : List α) : (bub lt L k).length = L.length := (bub_perm lt k L).length_eq

/-- The first n stand in order. -/
def Ord (L : List α) (n : Nat) : Prop := ∀ (i j : Nat) x y, i < j → j < n → L[i]? = some x → L[j]? = some y → lt y x = false

structure Weak : Prop where
  asym : ∀ a b, lt a b = true → lt b a = false
  trans : ∀ a b c, lt b a = false → lt c b = false → lt c a = false

theorem bub_ord (hw : Weak lt) : ∀ (k : Nat) (L : List α) (n : Nat), k < n → n ≤ L.length →
    (∀ (i j : Nat) x y, i < j → j < n → i ≠ k → j ≠ k → L[i]? = some x → L[j]? = some y → lt y x = false) →
    (∀ (j : Nat) x y, k < j → j < n → L[k]? = some x → L[j]? = some y → lt y x = false) → Ord lt (bub lt L k) n
  | 0, L, n, hk, hn, h1, h2 => by
    intro i j x y hij hj hx hy
    by_cases hi : i = 0
    · subst hi; exact h2 j x y hij hj hx hy
    · exact h1 i j x y hij hj hi (by omega) hx hy
  | k + 1, L, n, hk, hn, h1, h2 => by
    have hkx : L[k + 1]? = some L[k + 1] := List.getElem?_eq_getElem (by omega)
    have hky : L[k]? = some L[k] := List.getElem?_eq_getElem (by omega)
    generalize L[k + 1] = a at hkx
    generalize L[k] = b at hky
    rw [bub, hkx, hky]
    simp only
    split
    · rename_i hlt
      have get : ∀ (q : Nat) (z : α), ((L.set (k + 1) b).set k a)[q]? = some z → (q = k ∧ z = a) ∨ (q = k + 1 ∧ z = b) ∨ (q ≠ k ∧ q ≠ k + 1 ∧ L[q]? = some z) := by
        intro q z hz
        rw [List.getElem?_set] at hz
        split at hz
        · rename_i e
          subst e
          split at hz
          · simp at hz; exact .inl ⟨rfl, hz.symm⟩
          · cases hz
        · rename_i e
          rw [List.getElem?_set] at hz
          split at hz
          · rename_i e2
            subst e2
            split at hz
            · simp at hz; exact .inr (.inl ⟨rfl, hz.symm⟩)
            · cases hz
          · rename_i e2
            exact .inr (.inr ⟨fun h => e h.symm, fun h => e2 h.symm, hz⟩)
      refine bub_ord hw k _ n (by omega) (by simpa using hn) ?_ ?_
      · intro i j x y hij hj hik hjk hx hy
        rcases get i x hx with ⟨e, _⟩ | ⟨rfl, rfl⟩ | ⟨_, hi1, hx'⟩
        · exact absurd e hik
        · rcases get j y hy with ⟨e, _⟩ | ⟨e, _⟩ | ⟨_, hj1, hy'⟩
          · exact absurd e hjk
          · omega
          · exact h1 k j _ y (by omega) hj (by omega) hj1 hky hy'
        · rcases get j y hy with ⟨e, _⟩ | ⟨rfl, rfl⟩ | ⟨_, hj1, hy'⟩
          · exact absurd e hjk
          · exact h1 i k x _ (by omega) (by omega) hi1 (by omega) hx' hky
          · exact h1 i j x y hij hj hi1 hj1 hx' hy'
      · intro j x y hkj hj hx hy
        rcases get k x hx with ⟨_, rfl⟩ | ⟨e, _⟩ | ⟨e, _, _⟩
        · rcases get j y hy with ⟨e, _⟩ | ⟨_, rfl⟩ | ⟨_, hj1, hy'⟩
          · omega
          · exact hw.asym _ _ hlt
          · exact h2 j _ y (by omega) hj hkx hy'
        · omega
        · exact absurd rfl e
    · rename_i hlt
      have hlt' : lt a b = false := by simpa using hlt
      intro i j x y hij hj hx hy
      by_cases hjk : j = k + 1
      · subst hjk
        rw [hkx] at hy
        obtain rfl := Option.some.inj hy
        by_cases hik : i = k
        · subst hik
          rw [hky] at hx
          obtain rfl := Option.some.inj hx
          exact hlt'
        · exact hw.trans _ _ _ (h1 i k x b (by omega) (by omega) (by omega) (by omega) hx hky) hlt'
      · by_cases hik : i = k + 1
        · subst hik
          exact h2 j x y hij hj hx hy
        · exact h1 i j x y hij hj hik hjk hx hy
end

theorem Ord.pairwise {α : Type} {lt : α → α → Bool} {L : List α} (h : Ord lt L L.length) : L.Pairwise (fun a b => lt b a = false) := by
  rw [List.pairwise_iff_getElem]
  intro i j hi hj hij
  exact h i j _ _ hij hj (List.getElem?_eq_getElem hi) (List.getElem?_eq_getElem hj)
end Go.SL
