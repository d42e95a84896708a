/-
  Slices that the state owns: rows of records.
-/
import Derived.Test.YtbfplncdmbjjhaaGreatCal
import Derived.Maps.AppendAt
import Derived.Laws.OwnMore
set_option linter.unusedSectionVars false
set_option linter.unusedSimpArgs false
set_option linter.unusedVariables false
namespace Go.SL

/-- How a record lies in cells. -/
structure Lay (α : Type) where
  enc : α → List Value
  size : Nat
  pos : 0 < size
  len : ∀ a, (enc a).length = size
  one : ∀ a u, u ∈ enc a → u.oneCell' = true

section
variable {α : Type} (Y : Lay α)
def Lay.all (L : List α) : List Value := L.flatMap Y.enc
theorem Lay.all_app (L N : List α) : Y.all (L ++ N) = Y.all L ++ Y.all N := by simp [Lay.all]
theorem Lay.all_cons (a : α) (L : List α) : Y.all (a :: L) = Y.enc a ++ Y.all L := by simp [Lay.all]
theorem Lay.all_nil : Y.all [] = [] := rfl
theorem Lay.all_len (L : List α) : (Y.all L).length = L.length * Y.size := by
  induction L with
  | nil => simp [Lay.all]
  | cons a L ih => rw [Y.all_cons, List.length_append, ih, Y.len, List.length_cons, Nat.add_mul]; omega
theorem Lay.all_one (L : List α) : ∀ u ∈ Y.all L, u.oneCell' = true := by
  intro u hu
  obtain ⟨a, _, h⟩ := List.mem_flatMap.1 hu
  exact Y.one a u h
theorem Lay.all_get : ∀ {L : List α} {i : Nat} {a : α} {j : Nat} {u : Value}, L[i]? = some a → (Y.enc a)[j]? = some u → (Y.all L)[i * Y.size + j]? = some u
  | [], i, a, j, u, h, _ => by simp at h
  | b :: L, 0, a, j, u, h, hu => by
    simp only [List.getElem?_cons_zero, Option.some.injEq] at h
    subst h
    rw [Y.all_cons, Nat.zero_mul, Nat.zero_add, List.getElem?_append_left (List.getElem?_eq_some_iff.1 hu).1, hu]
  | b :: L, i + 1, a, j, u, h, hu => by
    simp only [List.getElem?_cons_succ] at h
    have := Lay.all_get h hu
    rw [Y.all_cons, List.getElem?_append_right (by rw [Y.len, Nat.add_mul]; omega), Y.len, ← this]
    congr 1
    rw [Nat.add_mul]
    omega
theorem Lay.all_take : ∀ (L : List α) (n : Nat), Y.all (L.take n) = (Y.all L).take (n * Y.size)
  | [], n => by simp [Lay.all]
  | a :: L, 0 => by simp [Lay.all]
  | a :: L, n + 1 => by
    rw [List.take_succ_cons, Y.all_cons, Y.all_cons, Lay.all_take L n, List.take_append, Y.len]
    rw [List.take_of_length_le (l := Y.enc a) (by rw [Y.len, Nat.add_mul]; omega)]
    congr 2
    rw [Nat.add_mul]
    omega
theorem Lay.all_drop : ∀ (L : List α) (n : Nat), Y.all (L.drop n) = (Y.all L).drop (n * Y.size)
  | [], n => by simp [Lay.all]
  | a :: L, 0 => by simp [Lay.all]
  | a :: L, n + 1 => by
    rw [List.drop_succ_cons, Y.all_cons, Lay.all_drop L n, List.drop_append, Y.len]
    rw [List.drop_of_length_le (l := Y.enc a) (by rw [Y.len, Nat.add_mul]; omega)]
    rw [List.nil_append]
    congr 1
    rw [Nat.add_mul]
    omega

/-- The slice v has the records L, in the row A. -/
def Row (e : TypeId) (A : Atom) (v : Value) (L : List α) : Prop :=
  (v = .slice none 0 0 ∧ L = [] ∧ A = []) ∨ ∃ g cap cur, v = .slice (some ⟨g, 0, none⟩) L.length cap ∧ A = [(g, .cells cur e (0, 0))] ∧ L.length ≤ cap ∧ cap ≤ maxLen ∧ cur.size = cap * Y.size ∧ cur.toList.take (L.length * Y.size) = Y.all L

theorem Row.nil (e : TypeId) : Row Y e [] (.slice none 0 0) [] := .inl ⟨rfl, rfl, rfl⟩
end

theorem setAll_size : ∀ (vs : List Value) (cs : Array Value) (off : Nat), (setAll cs off vs).size = cs.size
  | [], _, _ => rfl
  | v :: vs, cs, off => by simp only [setAll]; rw [setAll_size vs]; simp

theorem setAll_toList : ∀ (vs : List Value) (cs : Array Value) (off : Nat), off + vs.length ≤ cs.size → (setAll cs off vs).toList = cs.toList.take off ++ vs ++ cs.toList.drop (off + vs.length)
  | [], cs, off, _ => by simp [setAll]
  | v :: vs, cs, off, h => by
    simp only [List.length_cons] at h
    simp only [setAll]
    rw [setAll_toList vs _ _ (by simp; omega)]
    simp only [Array.toList_setIfInBounds, List.length_cons]
    have h1 : (cs.toList.set off v).take (off + 1) = cs.toList.take off ++ [v] := by
      rw [List.take_add_one, List.take_set_of_le (Nat.le_refl _)]
      have hlt : off < cs.toList.length := by simp; omega
      simp [List.getElem?_set]
      omega
    have h2 : (cs.toList.set off v).drop (off + 1 + vs.length) = cs.toList.drop (off + (vs.length + 1)) := by
      rw [List.drop_set_of_lt (by omega)]
      congr 1
      omega
    rw [h1, h2]
    simp

/-- Owned cells turned: the row A by the row A'. -/
theorem Inv.swap {B : World} {own : List Nat} {c c' : Ctx} {A A' : Atom} {w w' : World} (hu : Upd c A A' c') (h : Inv B own c w)
    (hkeep : ∀ k, k < w.heap.size → k ∉ A.map (·.1) → w'.heap[k]? = w.heap[k]?) (hsz : w.heap.size ≤ w'.heap.size) (ht : w'.tape = w.tape) (hos : w'.os = w.os) (hout : w'.output = w.output)
    (hA : ∀ b o, (b, o) ∈ A' → w'.heap[b]? = some o) (hnd : (A'.map (·.1)).Nodup) (hfr : ∀ b, b ∈ A'.map (·.1) → b ∈ A.map (·.1) ∨ w.heap.size ≤ b) : Inv B own c' w' := by
  obtain ⟨r, h1, h2⟩ := hu.perm
  have hi := h.perm h1
  have hn := hi.nd
  rw [dom_cons] at hn
  obtain ⟨_, hn2, hn3⟩ := List.nodup_append.1 hn
  have hr : ∀ b o, (b, o) ∈ r.flatten → b < w.heap.size ∧ b ∉ A.map (·.1) ∧ w.heap[b]? = some o := fun b o hm => by
    have hm' : (b, o) ∈ (A :: r).flatten := by simp only [List.flatten_cons, List.mem_append]; exact .inr hm
    refine ⟨hi.lt hm', fun hA => hn3 b hA b (List.mem_map.2 ⟨_, hm, rfl⟩) rfl, hi.heap b o hm'⟩
  have hrd : ∀ b, b ∈ dom r → b < w.heap.size ∧ b ∉ A.map (·.1) := fun b hb => by
    obtain ⟨⟨b', o⟩, hm, rfl⟩ := List.mem_map.1 hb
    exact ⟨(hr _ _ hm).1, (hr _ _ hm).2.1⟩
  refine Inv.perm h2.symm ⟨?_, ?_, ?_, ?_, Nat.le_trans h.size hsz, ht.trans h.tape, hos.trans h.os, hout.trans h.output⟩
  · intro b o hm
    simp only [List.flatten_cons, List.mem_append] at hm
    rcases hm with hm | hm
    · exact hA b o hm
    · obtain ⟨g1, g2, g3⟩ := hr b o hm
      rw [hkeep b g1 g2, g3]
  · rw [dom_cons]
    refine List.nodup_append.2 ⟨hnd, hn2, fun a ha b hb hab => ?_⟩
    subst hab
    obtain ⟨g1, g2⟩ := hrd a hb
    rcases hfr a ha with g | g
    · exact g2 g
    · omega
  · intro b hb
    rw [dom_cons, List.mem_append] at hb
    rcases hb with hb | hb
    · rcases hfr b hb with g | g
      · exact hi.fresh b (by rw [dom_cons, List.mem_append]; exact .inl g)
      · exact .inr (Nat.le_trans h.size g)
    · exact hi.fresh b (by rw [dom_cons, List.mem_append]; exact .inr hb)
  · intro b hb ho
    have hbA : b ∉ A.map (·.1) := fun hm => by
      rcases hi.fresh b (by rw [dom_cons, List.mem_append]; exact .inl hm) with g | g
      · exact ho g
      · omega
    rw [hkeep b (Nat.lt_of_lt_of_le hb h.size) hbA, h.kept b hb ho]

section
variable {α : Type} {Y : Lay α} {M : Mach} {all : Array Oper} {env : Env} {ctx : Ctx} {dst : Option Tmp} {ty : TypeId} {pos : String} {aft : Array Edge}

theorem Row.len {e : TypeId} {A : Atom} {v : Value} {L : List α} (h : Row Y e A v L) : ∃ a cap, v = .slice a L.length cap := by
  rcases h with ⟨rfl, rfl, _⟩ | ⟨g, cap, cur, rfl, _⟩
  · exact ⟨_, _, rfl⟩
  · exact ⟨_, _, rfl⟩

theorem Row.ptr {e : TypeId} {A : Atom} {v : Value} {L : List α} (h : Row Y e A v L) (hl : 0 < L.length) : ∃ g cap, v = .slice (some ⟨g, 0, none⟩) L.length cap := by
  rcases h with ⟨rfl, rfl, _⟩ | ⟨g, cap, cur, rfl, _⟩
  · simp at hl
  · exact ⟨_, _, rfl⟩

theorem Row.oneCell {e : TypeId} {A : Atom} {v : Value} {L : List α} (h : Row Y e A v L) : v.oneCell' = true := by
  obtain ⟨a, cap, rfl⟩ := h.len
  rfl

theorem Row.owns {e : TypeId} {A : Atom} {v : Value} {L : List α} {w : World} (h : Row Y e A v L) (hw : ∀ b o, (b, o) ∈ A → w.heap[b]? = some o) : w.ownsRow 0 e Y.size v L.length (Y.all L) := by
  refine ⟨Y.all_len L, ?_⟩
  rcases h with ⟨rfl, rfl, _⟩ | ⟨g, cap, cur, rfl, rfl, h1, h2, h3, h4⟩
  · exact .inl ⟨rfl, rfl⟩
  · exact .inr ⟨g, cap, cur, rfl, Nat.zero_le _, hw _ _ (List.mem_singleton.2 rfl), h1, h2, h3, h4⟩

theorem Upd.mem {c : Ctx} {x y : Atom} {c' : Ctx} (h : Upd c x y c') : x ∈ c := by
  induction h with
  | here => exact List.mem_cons_self ..
  | there _ ih => exact List.mem_cons_of_mem _ ih

/-- A cell of a record of a row. -/
theorem Row.rd {e : TypeId} {A : Atom} {g n cap : Nat} {L : List α} (h : Row Y e A (.slice (some ⟨g, 0, none⟩) n cap) L) (hm : A ∈ ctx) {i off : Nat} {a : α} {j : Nat} {u : Value} (hi : L[i]? = some a) (hu : (Y.enc a)[j]? = some u) (ho : off = i * Y.size + j) : Rd M ctx g off u := by
  subst ho
  intro w hw
  have hown := h.owns (w := w) fun b o hb => hw.heap b o (List.mem_flatten.2 ⟨A, hm, hb⟩)
  have := hown.cells (g := g) rfl _ _ (Y.all_get hi hu)
  rw [Addr_add] at this
  simpa using this

/-- The cells behind a slice. -/
def Src (M : Mach) (ctx : Ctx) (u : Value) (m : Nat) (ys : List Value) : Prop :=
  (u = .slice none 0 0 ∧ m = 0 ∧ ys = []) ∨ ∃ b off c, u = .slice (some ⟨b, off, none⟩) m c ∧ ∀ j y, ys[j]? = some y → Rd M ctx b (off + j) y
theorem Row.rds {e : TypeId} {A : Atom} {g n cap : Nat} {L : List α} (h : Row Y e A (.slice (some ⟨g, 0, none⟩) n cap) L) (hm : A ∈ ctx) {i off : Nat} {a : α} (hi : L[i]? = some a) (ho : off = i * Y.size) : ∀ j v, (Y.enc a)[j]? = some v → Rd M ctx g (off + j) v :=
  fun j _ hj => h.rd hm hi (j := j) hj (by rw [ho])

theorem Row.rdp {e : TypeId} {A : Atom} {g n cap : Nat} {L : List α} {vs : List Value} (h : Row Y e A (.slice (some ⟨g, 0, none⟩) n cap) L) (hm : A ∈ ctx) {i off j0 : Nat} {a : α} (hi : L[i]? = some a) (ho : off = i * Y.size + j0) (hv : ((Y.enc a).drop j0).take vs.length = vs) : ∀ j v, vs[j]? = some v → Rd M ctx g (off + j) v := by
  intro j v hj
  refine h.rd hm hi (j := j0 + j) ?_ (by rw [ho, Nat.add_assoc])
  have hlt : j < vs.length := (List.getElem?_eq_some_iff.1 hj).1
  rw [← hv, List.getElem?_take, if_pos hlt, List.getElem?_drop] at hj
  exact hj

theorem Row.src {e : TypeId} {A : Atom} {v : Value} {L : List α} (h : Row Y e A v L) (hm : A ∈ ctx) : Src M ctx v L.length (Y.all L) := by
  have h' := h
  rcases h with ⟨rfl, rfl, _⟩ | ⟨g, cap, cur, rfl, rest⟩
  · exact .inl ⟨rfl, rfl, rfl⟩
  · refine .inr ⟨g, 0, cap, rfl, fun j y hj w hw => ?_⟩
    have hown := h'.owns (w := w) fun b o hb => hw.heap b o (List.mem_flatten.2 ⟨A, hm, hb⟩)
    have := hown.cells (g := g) rfl _ _ hj
    rw [Addr_add] at this
    exact this

theorem src_raw {b c m : Nat} {cs : List Value} {T : TypeId} {fz : Nat × Nat} (hm : [(b, .cells cs.toArray T fz)] ∈ ctx) : Src M ctx (.slice (some ⟨b, 0, none⟩) m c) m cs :=
  .inr ⟨b, 0, c, rfl, fun j y hj => by rw [Nat.zero_add]; exact rd_chunk hm (by simpa using hj)⟩

theorem Src.run {u : Value} {m : Nat} {ys : List Value} (h : Src M ctx u m ys) {w : World} (hw : Inv M.B M.own ctx w) {size n k : Nat} (hl : ys.length = m * size) (hk : n ≤ m) : (Builtin.firstCells size n u).run M.P w = .ok (ys.take (n * size)).toArray w := by
  rcases h with ⟨rfl, rfl, rfl⟩ | ⟨b, off, c, rfl, h⟩
  · simp [Builtin.firstCells]
  · have hlen : (ys.take (n * size)).length = n * size := by rw [List.length_take, hl]; exact Nat.min_eq_left (Nat.mul_le_mul_right _ hk)
    have := run_loadCells_list (P := M.P) w ⟨b, off, none⟩ (ys.take (n * size)) (fun j v hv => by
      rw [Addr_add]
      refine h j v ?_ w hw
      rw [List.getElem?_take] at hv
      split at hv
      · exact hv
      · cases hv)
    rw [hlen] at this
    simpa [Builtin.firstCells] using this

theorem e_append {t e : TypeId} {x y : Operand} {i : TypeInfo} {z : Value} {bytes : Nat} {A : Atom} {v u : Value} {L N : List α} {c' : Atom → Ctx}
    (ht : M.P.underlying t = some (.slice e)) (hi : M.P.info? e = some i) (hz : i.zero = some z) (hsize : i.size = Y.size) (hby : i.bytes = bytes) (hzs : z.cells.size = Y.size)
    (hA : Row Y e A v L) (hm : ∀ A', Upd ctx A A' (c' A')) (hx : evalO env x = some v) (hy : evalO env y = some u) (hs : Src M ctx u N.length (Y.all N))
    (hb : (L.length + N.length) * bytes ≤ 140737488355328) (h63 : L.length + N.length ≤ maxLen) :
    EY M all ⟨dst, .call ⟨.builtin .append, #[x, y], #[t, t]⟩, ty, pos, aft, none⟩ env ctx (fun v' c => ∃ A', Row Y e A' v' (L ++ N) ∧ c = c' A') :=
  EY.mk rfl fun ρ w h hi' => by
    have hexec : (execOp ρ ⟨dst, .call ⟨.builtin .append, #[x, y], #[t, t]⟩, ty, pos, aft, none⟩).run M.P w = ((Builtin.append_ #[t, t] ty #[v, u]).run M.P w).andThen fun r w' => .ok (.value r) w' := by
      simp only [execOp, Sem.run_bind, resolve, Sem.run_pure, Result.andThen_ok, invoke, builtin, List.map_toArray, List.map_cons, List.map_nil, h x _ (by simp [Op.operands, Call.operands]) hx, h y _ (by simp [Op.operands, Call.operands]) hy]
    have hmemA : ∀ b o, (b, o) ∈ A → w.heap[b]? = some o := fun b o hb' => hi'.upd_lt (hm []) hb'
    have hown := hA.owns hmemA
    have hlen : (L ++ N).length = L.length + N.length := List.length_append
    rcases hs with ⟨rfl, hN, hys⟩ | ⟨sb, so, sc, rfl, hrd⟩
    · have hN0 : N = [] := List.eq_nil_of_length_eq_zero hN
      subst hN0
      rw [List.append_nil]
      refine ⟨v, w, c' A, .inl ?_, hi'.swap (hm A) (fun _ _ _ => rfl) (Nat.le_refl _) rfl rfl rfl hmemA ?_ (fun b hb' => .inl hb'), A, hA, rfl⟩
      · rw [hexec]
        have hr : (Builtin.append_ #[t, t] ty #[v, .slice none 0 0]).run M.P w = .ok v w := by
          rcases hA with ⟨rfl, rfl, _⟩ | ⟨g, cap, cur, rfl, rfl, h1, h2, h3, h4⟩
          · simp [Builtin.append_, run_underlying ht, sizeOf, typeInfo, hi, Builtin.lenOf, Builtin.firstCells]
          · simp [Builtin.append_, run_underlying ht, sizeOf, typeInfo, hi, Builtin.lenOf, Builtin.firstCells, h1, storeCells]
        rw [hr]
        rfl
      · rcases hA with ⟨rfl, rfl, rfl⟩ | ⟨g, cap, cur, rfl, rfl, h1, h2, h3, h4⟩ <;> simp
    · obtain ⟨v', w', hr, hown', hgr, hnil, hat⟩ := run_append_own_at (P := M.P) w 0 t ty e i z Y.size bytes ht hi hz hsize hby hzs Y.pos v L.length (Y.all L) hown ⟨sb, so, none⟩ N.length sc (Y.all N) (Y.all_len N)
        (fun j y hj => by rw [Addr_add]; exact hrd j y hj w hi') (Y.all_one N) h63 hb (Nat.zero_le _)
      rw [← Y.all_app] at hown'
      have hstep : ((Builtin.append_ #[t, t] ty #[v, .slice (some ⟨sb, so, none⟩) N.length sc]).run M.P w).andThen (fun r w' => Result.ok (Next.value r) w') = .ok (.value v') w' := by rw [hr]; rfl
      have hkeepA : ∀ k, k < w.heap.size → k ∉ A.map (·.1) → w'.heap[k]? = w.heap[k]? := fun k hk hkA => hgr.block k hk (fun e => by
        rcases hA with ⟨rfl, _, _⟩ | ⟨g, cap, cur, rfl, rfl, _⟩
        · simp [Value.ownBlock] at e
        · simp [Value.ownBlock] at e; exact hkA (by simp [e]))
      rcases hown'.2 with ⟨rfl, hn0⟩ | ⟨g, cap, cur, rfl, _, hg, h1, h2, h3, h4⟩
      · have hLN : L ++ N = [] := List.eq_nil_of_length_eq_zero (by rw [hlen]; exact hn0)
        refine ⟨_, w', c' [], .inl (hexec.trans hstep), hi'.swap (hm []) hkeepA hgr.size hgr.tape hgr.os hgr.output (fun b o hb' => by cases hb') (by simp) (fun b hb' => by simp at hb'), [], .inl ⟨rfl, hLN, rfl⟩, rfl⟩
      · refine ⟨_, w', c' [(g, .cells cur e (0, 0))], .inl (hexec.trans hstep), hi'.swap (hm _) hkeepA hgr.size hgr.tape hgr.os hgr.output (fun b o hb' => ?_) (by simp) (fun b hb' => ?_), _, .inr ⟨g, cap, cur, by rw [hlen], rfl, by rw [hlen]; exact h1, h2, h3, by rw [hlen]; exact h4⟩, rfl⟩
        · simp only [List.mem_singleton, Prod.mk.injEq] at hb'
          obtain ⟨rfl, rfl⟩ := hb'
          exact hg
        · simp only [List.map_cons, List.map_nil, List.mem_singleton] at hb'
          subst hb'
          rcases hat with hat | hat
          · left
            rcases hA with ⟨rfl, _, _⟩ | ⟨g', cap', cur', rfl, rfl, _⟩
            · simp [Value.ownBlock] at hat
            · simp [Value.ownBlock] at hat; simp [hat]
          · right
            simp [Value.ownBlock] at hat
            omega

theorem made_all {z : Array Value} {a0 : α} (hz : z.toList = Y.enc a0) (n : Nat) : (madeCells z (n * Y.size)).toList = Y.all (List.replicate n a0) := by
  have hsz : z.size = Y.size := by rw [← Array.length_toList, hz, Y.len]
  apply List.ext_getElem?
  intro k
  by_cases hk : k < n * Y.size
  · have hq : k / Y.size < n := Nat.div_lt_of_lt_mul (by rw [Nat.mul_comm]; exact hk)
    have hr : k % Y.size < Y.size := Nat.mod_lt _ Y.pos
    have h1 : (List.replicate n a0)[k / Y.size]? = some a0 := by simp [List.getElem?_replicate, hq]
    have hlt : k % Y.size < (Y.enc a0).length := by rw [Y.len]; exact hr
    have h2 := Y.all_get h1 (List.getElem?_eq_getElem hlt)
    rw [Nat.div_add_mod' k Y.size] at h2
    rw [h2]
    have h3 : k % Y.size < z.size := by rw [hsz]; exact hr
    have h4 : (madeCells z (n * Y.size)).toList[k]? = some z[k % z.size]! := by
      simp [madeCells, hk]
    rw [h4]
    congr 1
    rw [getElem!_pos z (k % z.size) (by rw [hsz]; exact hr)]
    have h5 : (Y.enc a0)[k % Y.size]? = z.toList[k % z.size]? := by rw [hz, hsz]
    rw [List.getElem?_eq_getElem hlt, Array.getElem?_toList, Array.getElem?_eq_getElem (by rw [hsz]; exact hr)] at h5
    exact (Option.some.inj h5).symm
  · rw [List.getElem?_eq_none (by simp [madeCells]; omega), List.getElem?_eq_none (by rw [Y.all_len]; simp; omega)]

theorem e_makeSlice {t e : TypeId} {x y : Operand} {i : TypeInfo} {z : Value} {n : Nat} {k1 k2 : IntKind} {a0 : α} (ht : M.P.underlying t = some (.slice e)) (hi : M.P.info? e = some i) (hz : i.zero = some z) (hsize : i.size = Y.size)
    (hz0 : z.cells.toList = Y.enc a0) (hx : evalO env x = some (.int k1 (n : Int))) (hy : evalO env y = some (.int k2 (n : Int))) (hbytes : i.bytes * n ≤ 281474976710656) (h63 : n ≤ maxLen) :
    EY M all ⟨dst, .makeSlice t x y, ty, pos, aft, none⟩ env ctx (fun v c => ∃ g A, Row Y e A v (List.replicate n a0) ∧ v = .slice (some ⟨g, 0, none⟩) n n ∧ c = A :: ctx) :=
  EY.mk rfl fun ρ w h hi' => by
    have hr := run_make (P := M.P) w t e i z ht hi hz k1 k2 (n : Int) (n : Int) (by omega) (Int.le_refl _) (by rw [← Int.natCast_mul]; omega) (by simp only [maxLen] at h63; omega)
    refine ⟨_, _, _, .inl ?_, hi'.alloc _, w.heap.size, _, .inr ⟨w.heap.size, n, madeCells z.cells (n * Y.size), ?_, rfl, Nat.le_of_eq (List.length_replicate ..), h63, size_madeCells _ _, ?_⟩, rfl, rfl⟩
    · simp only [execOp, Sem.run_bind, h x _ (by simp [Op.operands]) hx, h y _ (by simp [Op.operands]) hy, hr, Result.andThen_ok, Sem.run_pure, Int.toNat_natCast, hsize]
    · simp
    · rw [made_all hz0, List.length_replicate, List.take_of_length_le (by rw [Y.all_len]; simp)]

theorem e_copy {t t2 e : TypeId} {x y : Operand} {i : TypeInfo} {A : Atom} {v u : Value} {L N : List α} {c' : Atom → Ctx} (ht : M.P.underlying t = some (.slice e)) (hi : M.P.info? e = some i) (hsize : i.size = Y.size)
    (hA : Row Y e A v L) (hm : ∀ A', Upd ctx A A' (c' A')) (hx : evalO env x = some v) (hy : evalO env y = some u) (hs : Src M ctx u N.length (Y.all N)) (hle : N.length ≤ L.length) :
    EY M all ⟨dst, .call ⟨.builtin .copy, #[x, y], #[t, t2]⟩, ty, pos, aft, none⟩ env ctx (fun r c => ∃ A', Row Y e A' v (N ++ L.drop N.length) ∧ r = .int .i64 (N.length : Int) ∧ c = c' A') :=
  EY.mk rfl fun ρ w h hi' => by
    have hexec : (execOp ρ ⟨dst, .call ⟨.builtin .copy, #[x, y], #[t, t2]⟩, ty, pos, aft, none⟩).run M.P w = ((Builtin.copy_ #[t, t2] ty #[v, u]).run M.P w).andThen fun r w' => .ok (.value r) w' := by
      simp only [execOp, Sem.run_bind, resolve, Sem.run_pure, Result.andThen_ok, invoke, builtin, List.map_toArray, List.map_cons, List.map_nil, h x _ (by simp [Op.operands, Call.operands]) hx, h y _ (by simp [Op.operands, Call.operands]) hy]
    have hmemA : ∀ b o, (b, o) ∈ A → w.heap[b]? = some o := fun b o hb' => hi'.upd_lt (hm []) hb'
    have hfc := hs.run hi' (size := Y.size) (n := N.length) (k := 0) (Y.all_len N) (Nat.le_refl _)
    rw [List.take_of_length_le (by rw [Y.all_len]; exact Nat.le_refl _)] at hfc
    have hlo : (Builtin.lenOf u).run M.P w = .ok N.length w := by
      rcases hs with ⟨rfl, h0, _⟩ | ⟨b, off, c, rfl, _⟩
      · simp [Builtin.lenOf, h0]
      · simp [Builtin.lenOf]
    have hmin : Nat.min N.length L.length = N.length := Nat.min_eq_left hle
    have hlen : (N ++ L.drop N.length).length = L.length := by simp; omega
    rcases hA with ⟨rfl, rfl, rfl⟩ | ⟨g, cap, cur, rfl, rfl, h1, h2, h3, h4⟩
    · have hN : N = [] := List.eq_nil_of_length_eq_zero (by simpa using hle)
      subst hN
      refine ⟨_, w, c' [], .inl ?_, hi'.swap (hm _) (fun _ _ _ => rfl) (Nat.le_refl _) rfl rfl rfl hmemA (by simp) (fun b hb' => .inl hb'), [], .inl ⟨rfl, by simp, rfl⟩, rfl, rfl⟩
      rw [hexec]
      have hf2 : (Builtin.firstCells i.size 0 u).run M.P w = .ok #[] w := by rw [hsize]; exact hfc
      simp only [List.length_nil] at hlo
      simp only [Builtin.copy_, Sem.run_bind, run_underlying ht, Result.andThen_ok, hlo, sizeOf, typeInfo, hi, List.getElem?_toArray, List.getElem?_cons_zero, List.getElem?_cons_succ, Sem.run_pure, List.length_nil]
      simp [Sem.run_bind, hi, hf2, Result.andThen, goInt]
    · have hb := hmemA g _ (List.mem_singleton.2 rfl)
      have hfit : 0 + 0 + (Y.all N).length ≤ cur.size := by
        have := Nat.mul_le_mul_right Y.size (Nat.le_trans hle h1); rw [Y.all_len, h3]; omega
      obtain ⟨w', r1, r2, r3, r4, r5, r6, r7⟩ := run_storeCells (P := M.P) (b := g) (off := 0) (Y.all N) 0 w cur hb hfit (Y.all_one N)
      refine ⟨_, w', c' [(g, .cells (setAll cur 0 (Y.all N)) e (0, 0))], .inl ?_, hi'.swap (hm _) (fun k hk hkA => r3 k (fun e => hkA (by simp [e]))) (by omega) r5 r6 r7 (fun b o hb' => ?_) (by simp) (fun b hb' => .inl (by simpa using hb')), _, .inr ⟨g, cap, _, by rw [hlen], rfl, by rw [hlen]; exact h1, h2, by rw [setAll_size]; exact h3, ?_⟩, rfl, rfl⟩
      · rw [hexec]
        have hf2 : (Builtin.firstCells i.size N.length u).run M.P w = .ok (Y.all N).toArray w := by rw [hsize]; exact hfc
        simp only [Builtin.copy_, Sem.run_bind, run_underlying ht, Result.andThen_ok, hlo, sizeOf, typeInfo, hi, List.getElem?_toArray, List.getElem?_cons_zero, List.getElem?_cons_succ, Sem.run_pure]
        simp [Sem.run_bind, hi, hf2, Result.andThen, r1, hmin, goInt]
      · simp only [List.mem_singleton, Prod.mk.injEq] at hb'
        obtain ⟨rfl, rfl⟩ := hb'
        exact r2
      · rw [setAll_toList _ _ _ (by simpa using hfit), hlen, List.take_zero, List.nil_append, Nat.zero_add, Y.all_app, Y.all_drop, Y.all_len, ← h4]
        rw [List.take_append, Y.all_len, List.take_of_length_le (l := Y.all N) (by rw [Y.all_len]; exact Nat.mul_le_mul_right _ hle)]
        congr 1
        rw [← List.drop_take]

/-- Cells of one record of a row are written. -/
theorem e_storeRow {t e : TypeId} {x y : Operand} {A : Atom} {g n cap off : Nat} {L : List α} {i j : Nat} {a a' : α} {vs : List Value} {u : Value} {c' : Atom → Ctx} (hS : ∀ w, (sizeOf t).run M.P w = .ok vs.length w)
    (hA : Row Y e A (.slice (some ⟨g, 0, none⟩) n cap) L) (hm : ∀ A', Upd ctx A A' (c' A')) (hi : L[i]? = some a) (hx : evalO env x = some (.pointer (some ⟨g, off, none⟩))) (ho : off = i * Y.size + j) (hy : evalO env y = some u) (hu : u.cells.toList = vs)
    (he : Y.enc a' = (Y.enc a).take j ++ vs ++ (Y.enc a).drop (j + vs.length)) (hj : j + vs.length ≤ Y.size) :
    EY M all ⟨dst, .store t x y, ty, pos, aft, none⟩ env ctx (fun r c => ∃ A', Row Y e A' (.slice (some ⟨g, 0, none⟩) n cap) (L.set i a') ∧ r = undef ∧ c = c' A') :=
  EY.mk rfl fun ρ w h hi' => by
    rcases hA with ⟨h, _⟩ | ⟨g', cap', cur, hv, rfl, h1, h2, h3, h4⟩
    · cases h
    simp only [Value.slice.injEq, Option.some.injEq, Addr.mk.injEq, and_true] at hv
    obtain ⟨rfl, rfl, rfl⟩ := hv
    have hb := hi'.upd_lt (hm []) (b := g) (List.mem_singleton.2 rfl)
    have hilt : i < L.length := (List.getElem?_eq_some_iff.1 hi).1
    have hroom : (i + 1) * Y.size ≤ L.length * Y.size := Nat.mul_le_mul_right _ hilt
    have hcapr : L.length * Y.size ≤ cap * Y.size := Nat.mul_le_mul_right _ h1
    rw [Nat.add_mul, Nat.one_mul] at hroom
    have hone : ∀ v, v ∈ vs → v.oneCell' = true := fun v hv => Y.one a' v (by rw [he]; simp [hv])
    have hfit : off + 0 + vs.length ≤ cur.size := by rw [ho, h3]; omega
    obtain ⟨w', r1, r2, r3, r4, r5, r6, r7⟩ := run_storeCells (P := M.P) (b := g) (off := off) vs 0 w cur hb hfit hone
    refine ⟨undef, w', c' [(g, .cells (setAll cur off vs) e (0, 0))], .inr ⟨?_, rfl⟩, hi'.swap (hm _) (fun k hk hkA => r3 k (fun e => hkA (by simp [e]))) (by omega) r5 r6 r7 (fun b o hb' => ?_) (by simp) (fun b hb' => .inl (by simpa using hb')), _, .inr ⟨g, cap, _, by simp, rfl, by simpa using h1, h2, by rw [setAll_size]; exact h3, ?_⟩, rfl, rfl⟩
    · have hcs : u.cells = vs.toArray := by rw [← hu]
      have hsz : u.cells.size = vs.length := by rw [hcs]; simp
      simp [execOp, h x _ (by simp [Op.operands]) hx, h y _ (by simp [Op.operands]) hy, Instr.storeAt, Instr.sureAddr, storeVar, hS, hcs, r1, Result.andThen]
    · simp only [List.mem_singleton, Prod.mk.injEq] at hb'
      obtain ⟨rfl, rfl⟩ := hb'
      exact r2
    · have hall : Y.all (L.set i a') = (Y.all L).take (i * Y.size) ++ Y.enc a' ++ (Y.all L).drop ((i + 1) * Y.size) := by
        rw [List.set_eq_take_append_cons_drop, if_pos hilt, Y.all_app, Y.all_cons, Y.all_take, Y.all_drop, List.append_assoc]
      have hea : (Y.all L).drop (i * Y.size) = Y.enc a ++ (Y.all L).drop ((i + 1) * Y.size) := by
        have : L.drop i = a :: L.drop (i + 1) := by
          rw [List.drop_eq_getElem_cons hilt]
          congr 1
          exact (List.getElem?_eq_some_iff.1 hi).2
        rw [← Y.all_drop, this, Y.all_cons, Y.all_drop]
      rw [setAll_toList _ _ _ (by simpa using hfit), List.length_set, hall, he]
      have hlenL : (Y.all L).length = L.length * Y.size := Y.all_len L
      have hea1 : (Y.enc a).length = Y.size := Y.len a
      have hsplit : Y.all L = (Y.all L).take (i * Y.size) ++ (Y.enc a ++ (Y.all L).drop ((i + 1) * Y.size)) := by rw [← hea, List.take_append_drop]
      generalize hP : (Y.all L).take (i * Y.size) = Pre at *
      generalize hD : (Y.all L).drop ((i + 1) * Y.size) = Suf at *
      have hPl : Pre.length = i * Y.size := by rw [← hP, List.length_take, hlenL]; omega
      have hc : cur.toList = Pre ++ (Y.enc a ++ Suf) ++ cur.toList.drop (L.length * Y.size) := by
        rw [← hsplit, ← h4, List.take_append_drop]
      have hSl : Suf.length = L.length * Y.size - (i + 1) * Y.size := by rw [← hD, List.length_drop, hlenL]
      generalize cur.toList.drop (L.length * Y.size) = R at hc
      rw [hc, ho]
      rw [Nat.add_mul, Nat.one_mul] at hSl
      have t1 : (Pre ++ (Y.enc a ++ Suf) ++ R).take (i * Y.size + j) = Pre ++ (Y.enc a).take j := by
        rw [List.append_assoc, List.take_append, List.take_of_length_le (by omega), hPl, Nat.add_sub_cancel_left, List.append_assoc, List.take_append, hea1, Nat.sub_eq_zero_of_le (by omega : j ≤ Y.size)]
        simp
      have t2 : (Pre ++ (Y.enc a ++ Suf) ++ R).drop (i * Y.size + j + vs.length) = (Y.enc a).drop (j + vs.length) ++ Suf ++ R := by
        rw [List.append_assoc, List.drop_append, List.drop_of_length_le (by omega), hPl, List.nil_append, List.append_assoc, List.drop_append, hea1]
        have e1 : i * Y.size + j + vs.length - i * Y.size = j + vs.length := by omega
        rw [e1, Nat.sub_eq_zero_of_le hj]
        simp
      rw [t1, t2]
      have hlenX : (Pre ++ ((Y.enc a).take j ++ vs ++ (Y.enc a).drop (j + vs.length)) ++ Suf).length = L.length * Y.size := by
        simp only [List.length_append, List.length_take, List.length_drop, hea1, hPl, hSl]
        omega
      have e2 : Pre ++ (Y.enc a).take j ++ vs ++ ((Y.enc a).drop (j + vs.length) ++ Suf ++ R) = (Pre ++ ((Y.enc a).take j ++ vs ++ (Y.enc a).drop (j + vs.length)) ++ Suf) ++ R := by simp
      rw [e2, ← hlenX, List.take_left]
end

theorem Sub.nil {env : Env} : Sub [] env := fun _ _ h => by simp [look] at h
theorem Sub.cons {env r : Env} {k : Nat} {v : Value} (h : look env k = some v) (hs : Sub r env) : Sub ((k, v) :: r) env := by
  intro t u hu
  rw [look_cons] at hu
  by_cases e : k = t
  · subst e; rw [if_pos rfl] at hu; obtain rfl := Option.some.inj hu; exact h
  · rw [if_neg e] at hu; exact hs t u hu

/-- A loop whose state is given by data. -/
theorem W_loopD {M : Mach} {Q : Exit → Env → Ctx → Prop} {env : Env} {ctx r : Ctx} {c : Code} {D : Type} (E : D → Env) (C : D → Ctx) (ms : D → Nat) (P : D → Prop) (d0 : D) (hp : P d0) (hs : Sub (E d0) env) (hk : Pick (C d0) ctx r)
    (hr : ∀ d, P d → W M c (thenE (fun env' ctx' => ∃ d' r, P d' ∧ ms d' < ms d ∧ Sub (E d') env' ∧ Pick (C d') ctx' r) Q) (E d) (C d)) : W M (.loop c) Q env ctx := by
  refine W_loop (fun env ctx m => ∃ d r, P d ∧ m = ms d ∧ Sub (E d) env ∧ Pick (C d) ctx r) (ms d0) ⟨d0, r, hp, rfl, hs, hk⟩ ?_
  rintro m env' ctx' ⟨d, r', h1, rfl, h3, h4⟩
  refine W_weak h3 h4 (W_mono ?_ (hr d h1))
  intro e env2 ctx2 h
  cases e with
  | normal =>
    obtain ⟨d', r2, g1, g2, g3, g4⟩ := h
    exact ⟨ms d', g2, d', r2, g1, rfl, g3, g4⟩
  | exit id => exact h
  | goto l => exact h
  | ret => exact h
  | panic c => exact h
  | outgrown => exact h

/-- Two ways meet again. -/
theorem W_cut {M : Mach} {Q : Exit → Env → Ctx → Prop} {env : Env} {ctx : Ctx} {c rest : Code} {D : Type} (E : D → Env) (C : D → Ctx) (P : D → Prop)
    (h : W M c (thenE (fun env' ctx' => ∃ d r, P d ∧ Sub (E d) env' ∧ Pick (C d) ctx' r) Q) env ctx) (hr : ∀ d, P d → W M rest Q (E d) (C d)) : W M c (thenE (W M rest Q) Q) env ctx := by
  refine W_mono ?_ h
  intro e env2 ctx2 h
  cases e with
  | normal =>
    obtain ⟨d, r, g1, g2, g3⟩ := h
    exact W_weak g2 g3 (hr d g1)
  | exit id => exact h
  | goto l => exact h
  | ret => exact h
  | panic c => exact h
  | outgrown => exact h

theorem wu64' {x y : Int} (h : x = y) (hb : 0 ≤ y ∧ y < 18446744073709551616) : IntKind.u64.wrap x = y := by subst h; exact wu64 hb
theorem w64' {x y : Int} (h : x = y) (hb : -9223372036854775808 ≤ y ∧ y < 9223372036854775808) : IntKind.i64.wrap x = y := by subst h; exact w64 hb

section
variable {M : Mach} {all : Array Oper} {env : Env} {ctx : Ctx} {dst : Option Tmp} {ty : TypeId} {pos : String} {aft : Array Edge}

theorem run_equal_ifnil {P : Program} {t T : TypeId} {rv : Value} {ms : Array (String × TypeId)} (hu : ∀ w, (underlying t).run P w = .ok (.interface ms) w) (w : World) : (Op.equal t (.iface T rv) .nilIface).run P w = .ok false w := by
  show (Op.equalIn (9999 + 1) t _ _).run P w = _
  rw [Op.equalIn]
  simp [hu, Result.andThen]

/-- An interface value against nil. -/
theorem q_eqnilI {t yt T : TypeId} {x y : Operand} {rv : Value} {ms : Array (String × TypeId)} (hu : ∀ w, (underlying t).run M.P w = .ok (.interface ms) w) (hx : evalO env x = some (.iface T rv)) (hy : evalO env y = some .nilIface) :
    QY M all ⟨dst, .binOp .eql t x y yt, ty, pos, aft, none⟩ env ctx (.bool false) :=
  q_bin (fun w => by simp [Sem.run_bind, eqGuard, Result.andThen, binOp, run_equal_ifnil hu, Sem.run_pure]) hx hy
theorem q_nenilI {t yt T : TypeId} {x y : Operand} {rv : Value} {ms : Array (String × TypeId)} (hu : ∀ w, (underlying t).run M.P w = .ok (.interface ms) w) (hx : evalO env x = some (.iface T rv)) (hy : evalO env y = some .nilIface) :
    QY M all ⟨dst, .binOp .neq t x y yt, ty, pos, aft, none⟩ env ctx (.bool true) :=
  q_bin (fun w => by simp [Sem.run_bind, eqGuard, Result.andThen, binOp, run_equal_ifnil hu, Sem.run_pure]) hx hy

/-- The nil check of a method value. -/
theorem q_nilM {x : Operand} {T : TypeId} {rv : Value} {name : String} (hn : ∀ w, (nilAhead (M.P.types.size + Made.depth) T rv name).run M.P w = .ok (some false) w) (hx : evalO env x = some (.func (.method name) #[.iface T rv] #[])) :
    QY M all ⟨dst, .nilCheck x, ty, pos, aft, none⟩ env ctx (.func (.method name) #[.iface T rv] #[]) :=
  QY.val rfl fun ρ w h _ => by
    simp only [execOp, h x _ (by simp [Op.operands]) hx, Sem.run_bind, run_program, Result.andThen_ok]
    simp [hn, Result.andThen]
end

/-- Records that were there at the beginning. -/
def BaseRow {α : Type} (Y : Lay α) (B : World) (sa : Option Addr) (L : List α) : Prop :=
  ∀ (i : Nat) a, L[i]? = some a → ∃ b off, sa = some ⟨b, off, none⟩ ∧ ∀ (j : Nat) u, (Y.enc a)[j]? = some u → B.cell? ⟨b, off + (i * Y.size + j), none⟩ = some u

theorem BaseRow.ptr {α : Type} {Y : Lay α} {B : World} {sa : Option Addr} {L : List α} (h : BaseRow Y B sa L) {i : Nat} (hi : i < L.length) : ∃ b off, sa = some ⟨b, off, none⟩ := by
  obtain ⟨b, off, e, _⟩ := h i _ (List.getElem?_eq_getElem hi)
  exact ⟨b, off, e⟩

theorem BaseRow.rd {α : Type} {Y : Lay α} {P : Program} {B : World} {n : Nat} {ctx : Ctx} {b o off i j : Nat} {L : List α} {a : α} {u : Value} (h : BaseRow Y B (some ⟨b, o, none⟩) L) (hi : L[i]? = some a) (hu : (Y.enc a)[j]? = some u) (ho : off = o + i * Y.size + j) : Rd ⟨P, B, [], n⟩ ctx b off u := by
  obtain ⟨b', off', e, hc⟩ := h i a hi
  simp only [Option.some.injEq, Addr.mk.injEq, and_true] at e
  obtain ⟨rfl, rfl⟩ := e
  subst ho
  have := hc j u hu
  rw [← Nat.add_assoc] at this
  exact rd_base this (by simp)

theorem BaseRow.rds {α : Type} {Y : Lay α} {P : Program} {B : World} {n : Nat} {ctx : Ctx} {b o off i : Nat} {L : List α} {a : α} (h : BaseRow Y B (some ⟨b, o, none⟩) L) (hi : L[i]? = some a) (ho : off = o + i * Y.size) : ∀ j v, (Y.enc a)[j]? = some v → Rd ⟨P, B, [], n⟩ ctx b (off + j) v :=
  fun _ _ hj => h.rd hi hj (by rw [ho])

/-- A row of the state, as the callee finds it. -/
theorem Row.base {α : Type} {Y : Lay α} {B wd : World} {own : List Nat} {ctx : Ctx} {e : TypeId} {A : Atom} {sa : Option Addr} {n cap : Nat} {L : List α} (h : Row Y e A (.slice sa n cap) L) (hm : A ∈ ctx) (hwd : Inv B own ctx wd) : BaseRow Y wd sa L := by
  intro i a hi
  have hlt : i < L.length := (List.getElem?_eq_some_iff.1 hi).1
  obtain ⟨g, c, e1⟩ := h.ptr (by omega)
  simp only [Value.slice.injEq] at e1
  obtain ⟨rfl, rfl, rfl⟩ := e1
  refine ⟨g, 0, rfl, fun j u hj => ?_⟩
  have hown := h.owns (w := wd) fun b o hb => hwd.heap b o (List.mem_flatten.2 ⟨A, hm, hb⟩)
  have := hown.cells (g := g) rfl _ _ (Y.all_get hi hj)
  rw [Addr_add] at this
  exact this

/-- Records that were there at the beginning are there still. -/
theorem BaseRow.still {α : Type} {Y : Lay α} {B wd : World} {ctx : Ctx} {sa : Option Addr} {L : List α} (h : BaseRow Y B sa L) (hwd : Inv B (dom []) ctx wd) : BaseRow Y wd sa L := by
  intro i a hi
  obtain ⟨b, off, e, hc⟩ := h i a hi
  refine ⟨b, off, e, fun j u hj => ?_⟩
  exact rd_base (M := ⟨default, B, dom [], 0⟩) (ctx := ctx) (hc j u hj) (by simp [dom]) wd hwd

theorem BaseRow.take {α : Type} {Y : Lay α} {B : World} {sa : Option Addr} {L : List α} (h : BaseRow Y B sa L) (n : Nat) : BaseRow Y B sa (L.take n) := by
  intro i a hi
  rw [List.getElem?_take] at hi
  split at hi
  · exact h i a hi
  · cases hi

/-- A block's cells that were there at the beginning. -/
def BaseCells (B : World) (b : Nat) (vs : List Value) : Prop := ∀ (j : Nat) u, vs[j]? = some u → B.cell? ⟨b, j, none⟩ = some u

theorem base_cells {B wd : World} {own : List Nat} {ctx : Ctx} {b : Nat} {cs : Array Value} {T : TypeId} {fz : Nat × Nat} (hm : [(b, .cells cs T fz)] ∈ ctx) (hwd : Inv B own ctx wd) : BaseCells wd b cs.toList := by
  intro j u hj
  have := hwd.heap b _ (List.mem_flatten.2 ⟨_, hm, List.mem_singleton.2 rfl⟩)
  rw [Array.getElem?_toList] at hj
  simp [World.cell?, this, hj]

theorem BaseCells.rds {P : Program} {B : World} {n : Nat} {ctx : Ctx} {b : Nat} {vs : List Value} (h : BaseCells B b vs) : ∀ j v, vs[j]? = some v → Rd ⟨P, B, [], n⟩ ctx b (0 + j) v :=
  fun j v hj => rd_base (by rw [Nat.zero_add]; exact h j v hj) (by simp)

theorem BaseCells.still {B wd : World} {ctx : Ctx} {b : Nat} {vs : List Value} (h : BaseCells B b vs) (hwd : Inv B (dom []) ctx wd) : BaseCells wd b vs :=
  fun j u hj => rd_base (M := ⟨default, B, dom [], 0⟩) (ctx := ctx) (h j u hj) (by simp [dom]) wd hwd
end Go.SL
