/-
  Ranges over maps.
-/
import Derived.Test.YtbfplncdmbjjhaaGreatIn
import Derived.Maps.RangeRun
set_option linter.unusedSectionVars false
set_option linter.unusedSimpArgs false
set_option linter.unusedVariables false
namespace Go.SL
open Go.ChangeMaps (setBlock)

section
variable {K V : Type} [DecidableEq K] {ek : K → Value} {ev : V → Value}

/-- The iterator of block r over the map of block m has handed out the entries I. -/
def IterIs (ek : K → Value) (ev : V → Value) (A It : Atom) (m r : Nat) (l : List (K × V)) (I : List Nat) : Prop :=
  ∃ es clock, A = [(m, .map es clock)] ∧ It = [(r, .mapIter (some m) clock (I.map (fun i => (es.toList[i]?.map (·.born)).getD 0)).toArray clock)] ∧ MRep ek ev es.toList l ∧ Born es.toList clock ∧ I.Nodup ∧ (∀ i, i ∈ I → i < l.length)

theorem MRep.at {es : List MapEntry} {l : List (K × V)} (h : MRep ek ev es l) {i : Nat} {e : MapEntry} (he : es[i]? = some e) : ∃ x, l[i]? = some x ∧ e.key = ek x.1 ∧ e.val = ev x.2 := by
  have := congrArg (fun q => q[i]?) h
  simp only [List.getElem?_map, he, Option.map_some] at this
  cases hl : l[i]? with
  | none => rw [hl] at this; cases this
  | some x => rw [hl] at this; simp at this; exact ⟨x, rfl, this.1, this.2⟩

theorem nodup_le {L : List Nat} {n : Nat} (h : L.Nodup) (hl : ∀ i, i ∈ L → i < n) : L.length ≤ n := by
  have hp : L.Perm ((List.range n).filter (fun i => decide (i ∈ L))) := by
    refine (List.perm_ext_iff_of_nodup h (List.nodup_range.sublist List.filter_sublist)).2 fun i => ?_
    simp only [List.mem_filter, List.mem_range, decide_eq_true_eq]
    exact ⟨fun hi => ⟨hl i hi, hi⟩, fun hi => hi.2⟩
  have h1 := hp.length_eq
  have h2 := List.length_filter_le (fun i => decide (i ∈ L)) (List.range n)
  simp at h2
  omega

variable {M : Mach} {all : Array Oper} {env : Env} {ctx : Ctx} {dst : Option Tmp} {ty : TypeId} {pos : String} {aft : Array Edge}

theorem e_range {t kt et : TypeId} {x : Operand} {m : Nat} {A : Atom} {l : List (K × V)} (hu : ∀ w, (underlying t).run M.P w = .ok (.map kt et) w) (hA : MapIs ek ev A m l) (hm : A ∈ ctx) (hx : evalO env x = some (.map (some m))) :
    EY M all ⟨dst, .range t x, ty, pos, aft, none⟩ env ctx (fun v c => ∃ r It, IterIs ek ev A It m r l [] ∧ v = .pointer (some ⟨r, 0, none⟩) ∧ c = It :: ctx) :=
  EY.mk rfl fun ρ w h hi => by
    obtain ⟨es, clock, rfl, hr, hkl, hb⟩ := hA
    have hh := hi.atom hm (List.mem_singleton.2 rfl)
    refine ⟨.pointer (some ⟨w.heap.size, 0, none⟩), w.alloc (.mapIter (some m) clock #[] clock), _, .inl ?_, hi.alloc _, w.heap.size, _, ⟨es, clock, rfl, rfl, hr, hb, List.nodup_nil, fun i hi => by cases hi⟩, rfl, rfl⟩
    simp [execOp, h x _ (by simp [Op.operands]) hx, Instr.range, Sem.run_bind, hu, run_getObj' hh, run_newObj_alloc, Result.andThen]

theorem Inv.drew {B : World} {own : List Nat} {c : Ctx} {w : World} (h : Inv B own c w) : Inv B own c w.drew := ⟨h.heap, h.nd, h.fresh, h.kept, h.size, h.tape, h.os, h.output⟩

theorem e_next {x : Operand} {m r : Nat} {A It : Atom} {l : List (K × V)} {I : List Nat} {c' : Atom → Ctx} (hI : IterIs ek ev A It m r l I) (hm : A ∈ ctx) (hit : ∀ A', Upd ctx It A' (c' A')) (hx : evalO env x = some (.pointer (some ⟨r, 0, none⟩))) :
    EY M all ⟨dst, .next x false, ty, pos, aft, none⟩ env ctx (fun v c => (v = .tuple #[.bool false] ∧ c = c' It ∧ I.Perm (List.range l.length)) ∨
      ∃ i It' p u, l[i]? = some (p, u) ∧ i ∉ I ∧ I.length < l.length ∧ IterIs ek ev A It' m r l (I ++ [i]) ∧ v = .tuple #[.bool true, ek p, ev u] ∧ c = c' It') :=
  EY.mk rfl fun ρ w h hi => by
    obtain ⟨es, clock, rfl, rfl, hr, hb, hnd, hlt⟩ := hI
    have hh := hi.atom hm (List.mem_singleton.2 rfl)
    have hit0 := hi.upd_lt (hit []) (b := r) (List.mem_singleton.2 rfl)
    have hlen := hr.len
    have hexec : (execOp ρ ⟨dst, .next x false, ty, pos, aft, none⟩).run M.P w = ((Instr.next (.pointer (some ⟨r, 0, none⟩)) false ty).run M.P w).andThen fun v w' => .ok (.value v) w' := by
      simp [execOp, h x _ (by simp [Op.operands]) hx, Sem.run_bind]
    have hborn : ∀ i j e, es.toList[i]? = some e → j ∈ I → (es.toList[j]?.map (·.born)).getD 0 = e.born → j = i := by
      intro i j e he hj hbj
      have hjl : j < es.toList.length := by rw [hlen]; exact hlt j hj
      rw [List.getElem?_eq_getElem hjl] at hbj
      simp at hbj
      have hil := (List.getElem?_eq_some_iff.1 he)
      obtain ⟨hil, he'⟩ := hil
      have h1 : (es.toList.map (·.born))[j]? = (es.toList.map (·.born))[i]? := by
        rw [List.getElem?_map, List.getElem?_map, List.getElem?_eq_getElem hjl, List.getElem?_eq_getElem hil, he']
        simp [hbj]
      exact (List.getElem?_inj (by simpa using hjl) hb.nd).1 h1
    rcases run_next_at (P := M.P) w ty r m clock clock (I.map (fun i => (es.toList[i]?.map (·.born)).getD 0)).toArray es clock hit0 hh (fun e he => hb.lt e he) (Nat.le_refl _) with ⟨h0, hrun⟩ | ⟨e, he, w1, hw1, hrun⟩
    · refine ⟨_, w, _, .inl (by rw [hexec, hrun]; rfl), hi.swap (hit _) (fun _ _ _ => rfl) (Nat.le_refl _) rfl rfl rfl (fun b o ho => hi.upd_lt (hit []) ho) (by simp) (fun b hb => .inl hb), .inl ⟨rfl, rfl, ?_⟩⟩
      refine (List.perm_ext_iff_of_nodup hnd List.nodup_range).2 fun i => ⟨fun hI => List.mem_range.2 (hlt i hI), fun hI => ?_⟩
      have hil : i < es.toList.length := by rw [hlen]; exact List.mem_range.1 hI
      have hge : es.toList[i]? = some es.toList[i] := List.getElem?_eq_getElem hil
      have hmem : es.toList[i] ∈ es.toList := List.getElem_mem hil
      have hnl : ¬ es.toList[i] ∈ (leftOf es (I.map (fun i => (es.toList[i]?.map (·.born)).getD 0)).toArray).toList := by rw [Array.eq_empty_of_size_eq_zero h0]; simp
      simp only [leftOf, Array.toList_filter, List.mem_filter, not_and] at hnl
      have := hnl hmem
      simp at this
      obtain ⟨j, hj, hbj⟩ := this
      have : j = i := hborn i j _ hge hj (by simpa using hbj)
      rw [← this]; exact hj
    · simp only [leftOf, Array.toList_filter, List.mem_filter] at he
      obtain ⟨hmem, hns⟩ := he
      obtain ⟨i, hil, hie⟩ := List.getElem_of_mem hmem
      have hge : es.toList[i]? = some e := by rw [List.getElem?_eq_getElem hil, hie]
      obtain ⟨⟨p, u⟩, hlp, hk, hv⟩ := hr.at hge
      have hni : i ∉ I := by
        intro hI
        simp at hns
        exact hns i hI (by rw [show es[i]? = some e by simpa using hge]; rfl)
      have hi1 : Inv M.B M.own ctx w1 := by rcases hw1 with rfl | rfl; exact hi; exact hi.drew
      have hcard : I.length < l.length := by
        have h1 : (i :: I).Nodup := List.nodup_cons.2 ⟨hni, hnd⟩
        have h2 : (i :: I).length ≤ l.length := nodup_le h1 (fun j hj => by
          rcases List.mem_cons.1 hj with rfl | hj
          · rw [← hlen]; exact hil
          · exact hlt j hj)
        simp at h2
        omega
      refine ⟨_, _, c' [(r, .mapIter (some m) clock ((I ++ [i]).map (fun i => (es.toList[i]?.map (·.born)).getD 0)).toArray clock)], .inl (by rw [hexec, hrun]; rfl), ?_, .inr ⟨i, _, p, u, hlp, hni, hcard, ⟨es, clock, rfl, rfl, hr, hb, ?_, ?_⟩, by rw [hk, hv], rfl⟩⟩
      · have hpush : (I.map (fun i => (es.toList[i]?.map (·.born)).getD 0)).toArray.push e.born = ((I ++ [i]).map (fun i => (es.toList[i]?.map (·.born)).getD 0)).toArray := by
          rw [List.map_append, List.push_toArray]
          simp only [List.map_cons, List.map_nil, hge, Option.map_some, Option.getD_some]
        rw [hpush]
        have hrl : r < w1.heap.size := (Array.getElem?_eq_some_iff.1 (hi1.upd_lt (hit []) (b := r) (List.mem_singleton.2 rfl))).1
        exact hi1.upd (hit _) (by simp [setBlock, hrl]) (fun k hk => by simp [setBlock, Array.getElem?_setIfInBounds_ne (fun e => hk e.symm)]) (by simp [setBlock]) rfl rfl rfl
      · rw [List.nodup_append]
        exact ⟨hnd, by simp, fun a ha b hb' => by simp at hb'; subst hb'; exact fun e => hni (e ▸ ha)⟩
      · intro j hj
        rcases List.mem_append.1 hj with hj | hj
        · exact hlt j hj
        · simp at hj; subst hj; rw [← hlen]; exact hil

theorem q_entry {x : Operand} {m r i : Nat} {A It : Atom} {l : List (K × V)} {I : List Nat} {p : K} {u : V} (hI : IterIs ek ev A It m r l (I ++ [i])) (hl : l[i]? = some (p, u)) (hm : A ∈ ctx) (hit : It ∈ ctx) (hx : evalO env x = some (.pointer (some ⟨r, 0, none⟩))) :
    QY M all ⟨dst, .entry x, ty, pos, aft, none⟩ env ctx (.tuple #[ek p, ev u]) :=
  QY.val rfl fun ρ w h hi => by
    obtain ⟨es, clock, rfl, rfl, hr, hb, hnd, hlt⟩ := hI
    have hh := hi.atom hm (List.mem_singleton.2 rfl)
    have hit0 := hi.atom hit (List.mem_singleton.2 rfl)
    have hil : i < es.toList.length := by rw [hr.len]; exact (List.getElem?_eq_some_iff.1 hl).1
    have hge : es.toList[i]? = some es.toList[i] := List.getElem?_eq_getElem hil
    obtain ⟨x', hx', hk, hv⟩ := hr.at hge
    rw [hl] at hx'
    obtain rfl := Option.some.inj hx'
    have hpush : ((I ++ [i]).map (fun i => (es.toList[i]?.map (·.born)).getD 0)).toArray = (I.map (fun i => (es.toList[i]?.map (·.born)).getD 0)).toArray.push (es.toList[i]).born := by
      rw [List.map_append, List.push_toArray]
      simp only [List.map_cons, List.map_nil, hge, Option.map_some, Option.getD_some]
    rw [hpush] at hit0
    have := run_entry_at (P := M.P) w r m clock _ es clock _ hit0 hh (List.getElem_mem hil) hb.nd
    simp only [execOp, h x _ (by simp [Op.operands]) hx, Sem.run_bind, this, Result.andThen_ok, Sem.run_pure, hk, hv]
end
end Go.SL
