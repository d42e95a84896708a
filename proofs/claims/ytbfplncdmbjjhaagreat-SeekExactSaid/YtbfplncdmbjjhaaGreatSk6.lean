/-
  Walks: the slots of a list, each once; and by rising keys.
-/
import Derived.Test.YtbfplncdmbjjhaaGreatSk5
set_option linter.unusedSimpArgs false
set_option linter.unusedVariables false
namespace Go.SL
/-- A whole block is written. -/
theorem e_storeAll {M : Mach} {all : Array Oper} {env : Env} {ctx : Ctx} {dst : Option Tmp} {ty : TypeId} {pos : String} {aft : Array Edge} {t : TypeId} {x y : Operand} {b : Nat} {cs : Array Value} {T : TypeId} {vs : List Value} {c' : Ctx} (hS : ∀ w, (sizeOf t).run M.P w = .ok vs.length w)
    (hx : evalO env x = some (.pointer (some ⟨b, 0, none⟩))) (hy : evalO env y = some (.agg vs.toArray)) (h1 : vs.all Value.oneCell' = true) (hu : Upd ctx [(b, .cells cs T (0, 0))] [(b, .cells vs.toArray T (0, 0))] c')
    (hlt : vs.length = cs.size) : EY M all ⟨dst, .store t x y, ty, pos, aft, none⟩ env ctx (fun u c => u = undef ∧ c = c') :=
  e_storeN hS hx hy h1 hu (by rw [Nat.zero_add, hlt]; exact Nat.ble_eq_true_of_le (Nat.le_refl _)) (by
    apply Array.ext'
    rw [setAll_toList _ _ _ (by omega)]
    simp [List.drop_of_length_le, hlt])
end Go.SL
namespace Go.Proofs.YtbfplncdmbjjhaaGreat
open Go Go.SL

@[irreducible] def falses : List Value := List.replicate 1001 (Value.bool false)
theorem falses_len : falses.length = 1001 := by unfold falses; exact List.length_replicate
theorem falses_get {j : Nat} (h : j < 1001) : falses[j]? = some (.bool false) := by unfold falses; rw [List.getElem?_replicate, if_pos h]
theorem falses_one : falses.all Value.oneCell' = true := by
  rw [List.all_eq_true]
  intro x hx
  unfold falses at hx
  rw [List.eq_of_mem_replicate hx]
  rfl
theorem zc_eq : Tryz.zeroCells111 = falses.toArray := by unfold falses; kernel_rfl

structure Good (S : List Nd) : Prop where
  nd : (S.map (·.slot)).Nodup
  sl : ∀ x, x ∈ S → 1 ≤ x.slot ∧ x.slot ≤ 1000
  wd : ∀ x, x ∈ S → Wd x.key ∧ Wd x.val
  le : S.length ≤ 40

theorem Good.slots {S : List Nd} (h : Good S) : slotsOk S := ⟨h.nd, fun x hx => by have := h.sl x hx; omega⟩
theorem Good.perm {S S' : List Nd} (hp : S.Perm S') (h : Good S) : Good S' :=
  ⟨(hp.map _).nodup_iff.1 h.nd, fun x hx => h.sl x (hp.symm.subset hx), fun x hx => h.wd x (hp.symm.subset hx), by rw [← hp.length_eq]; exact h.le⟩
theorem Good.mark {S : List Nd} {i : Nat} {y : Nd} (hy : S[i]? = some y) (h : Good S) : Good (S.set i { y with mark := true }) := by
  have hmap : (S.set i { y with mark := true }).map (·.slot) = S.map (·.slot) := by
    rw [List.map_set]
    apply List.ext_getElem?
    intro j
    rw [List.getElem?_set]
    split
    · rename_i e
      subst e
      rw [List.getElem?_map, hy]
      have := (List.getElem?_eq_some_iff.1 hy).1
      simp [this]
    · rfl
  have hmem : ∀ x, x ∈ S.set i { y with mark := true } → ∃ z, z ∈ S ∧ z.slot = x.slot ∧ z.key = x.key ∧ z.val = x.val := by
    intro x hx
    rcases List.mem_or_eq_of_mem_set hx with hx | rfl
    · exact ⟨x, hx, rfl, rfl, rfl⟩
    · exact ⟨y, List.mem_of_getElem? hy, rfl, rfl, rfl⟩
  refine ⟨by rw [hmap]; exact h.nd, fun x hx => ?_, fun x hx => ?_, by simpa using h.le⟩
  · obtain ⟨z, hz, e1, _, _⟩ := hmem x hx; rw [← e1]; exact h.sl z hz
  · obtain ⟨z, hz, _, e2, e3⟩ := hmem x hx; rw [← e2, ← e3]; exact h.wd z hz

theorem ap_N {B : World} {own : List Nat} {n : Nat} {all : Array Oper} {env : Env} {ctx : Ctx} {dst : Option Tmp} {ty : TypeId} {pos : String} {aft : Array Edge} {x y : Operand} {A : Atom} {v u : Value} {L N : List Nd} {c' : Atom → Ctx}
    (hA : Row layN 105 A v L) (hm : ∀ A', Upd ctx A A' (c' A')) (hx : evalO env x = some v) (hy : evalO env y = some u) (hs : Src ⟨Tryz.prog, B, own, n⟩ ctx u N.length (layN.all N)) (hl : L.length + N.length ≤ 1099511627776) :
    EY ⟨Tryz.prog, B, own, n⟩ all ⟨dst, .call ⟨.builtin .append, #[x, y], #[22, 22]⟩, ty, pos, aft, none⟩ env ctx (fun v' c => ∃ A', Row layN 105 A' v' (L ++ N) ∧ c = c' A') :=
  e_append (Y := layN) (i := Tryz.t105) (bytes := 32) Tryz.underlying22 (by kernel_rfl) rfl rfl rfl rfl hA hm hx hy hs (by omega) (by simp only [maxLen]; omega)

def NdW (x : Nd) : Prop := Wd x.key ∧ Wd x.val
/-- Which slots were seen. -/
def Seen (cs : List Value) (out : List Nd) : Prop := cs.length = 1001 ∧ ∀ j, j < 1001 → cs[j]? = some (.bool (out.any fun y => decide (y.slot = (j : Int))))

theorem all_bool {cs : List Value} {out : List Nd} (h : Seen cs out) : cs.all Value.oneCell' = true := by
  rw [List.all_eq_true]
  intro x hx
  obtain ⟨j, hj⟩ := List.getElem?_of_mem hx
  have hlt := (List.getElem?_eq_some_iff.1 hj).1
  rw [h.2 j (by rw [h.1] at hlt; exact hlt)] at hj
  obtain rfl := Option.some.inj hj
  rfl

theorem law15_nodes (B : World) (sa : Option Addr) (n cap : Nat) (L : List Nd) (hn : L.length = n) (hb : BaseRow layN B sa L) (hL : L.length ≤ 9223372036854775807) (hw : ∀ x, x ∈ L → NdW x) :
    Ctr Tryz.prog 8 [.slice sa n cap] B [] (fun u c => ∃ N S, Row layN 105 N u S ∧ Good S ∧ c = [N]) := by
  subst hn
  have hbld : ∀ w, (Instr.build 111 #[]).run Tryz.prog w = .ok (.agg falses.toArray) w := fun w => by
    rw [← zc_eq]
    simp only [Instr.build, Sem.run_bind, Tryz.zeroValue111, Result.andThen_ok, Tryz.runUnderlying111, Tryz.sizeOf4, Value.cells, Instr.fill, Sem.run_pure]
  refine Ctr.intro (n := 43) Tryz.func8 rfl Tryz.ntmps8 (Nat.le_of_ble_eq_true rfl) ?_
  refine W_seq ?_
  refine W_reg rfl ?_
  refine O_qs (q_assign rfl) ?_
  refine O_nil ?_
  refine W_seq ?_
  refine W_reg rfl ?_
  refine O_es (e_bslice (zl := []) (cs := []) Tryz.runUnderlying22 Tryz.sizeOf105 Tryz.zeroValue105 rfl (by kernel_rfl) rfl rfl) ?_
  rintro _ _ ⟨b7, rfl, rfl⟩
  refine O_qs (q_assign rfl) ?_
  refine O_nil ?_
  refine W_seq ?_
  refine W_reg rfl ?_
  refine O_qs (q_build (ps := []) rfl hbld) ?_
  refine O_es (e_alloc (cs := falses.toArray) Tryz.zeroValue111 zc_eq) ?_
  rintro _ _ ⟨b4, rfl, rfl⟩
  refine O_en (e_storeAll (vs := falses) (fun w => by rw [Tryz.sizeOf111, falses_len]) rfl rfl falses_one (by repeat (first | exact Upd.here | apply Upd.there)) rfl) ?_
  rintro _ _ ⟨rfl, rfl⟩
  refine O_nil ?_
  refine W_seq ?_
  refine W_seq ?_
  refine W_reg rfl ?_
  refine O_qs (q_assign rfl) ?_
  refine O_nil ?_
  refine W_block ?_
  refine W_loopD (fun (d : Nat × Option Addr × Nat × Atom × List Nd × List Value) => [(5, .int .i64 (d.1 : Int)), (4, ptr b4), (3, .slice d.2.1 d.2.2.2.2.1.length d.2.2.1), (0, .slice sa L.length cap)]) (fun (_, _, _, R2, _, cs) => [R2, [(b4, .cells cs.toArray 111 (0, 0))]]) (fun d => L.length - d.1) (fun (i, a2, c2, R2, out, cs) => i ≤ L.length ∧ i ≤ 40 ∧ out.length ≤ i ∧ Row layN 105 R2 (.slice a2 out.length c2) out ∧ Good out ∧ Seen cs out) (0, some ⟨b7, 0, none⟩, 0, [(b7, .cells #[] 105 (0, 0))], [], falses) ?_ (by repeat (first | exact Sub.nil | refine Sub.cons rfl ?_)) (by repeat (first | exact Pick.nil | exact Take.here | apply Pick.cons | apply Take.there)) ?_
  · refine ⟨Nat.zero_le _, Nat.zero_le _, Nat.le_refl _, row_empty layN b7 105, ⟨List.nodup_nil, (fun x hx => by cases hx), (fun x hx => by cases hx), Nat.zero_le _⟩, falses_len, fun j hj => by rw [falses_get hj]; rfl⟩
  · rintro ⟨i, a2, c2, R2, out, cs⟩ ⟨hi, hi40, hol, hR2, hG, hS⟩
    dsimp only at hi hi40 hol hR2 hG hS ⊢
    refine W_seq ?_
    refine W_seq ?_
    refine W_reg rfl ?_
    refine O_qs (q_move rfl) ?_
    refine O_qs (q_move rfl) ?_
    refine O_qs (q_len Tryz.runUnderlying22 rfl) ?_
    refine O_qs (q_lss rfl rfl) ?_
    refine O_qs (q_move rfl) ?_
    refine O_qs (QY.cond0 rfl rfl rfl (fun H => q_move rfl)) ?_
    refine O_qs (QY.cond0 rfl rfl rfl (fun H => q_lss (gvh rfl H) rfl)) ?_
    refine O_qs (q_and rfl rfl rfl) ?_
    refine O_nil ?_
    refine W_cond rfl ?_ ?_
    · intro hc
      have hc' : i < L.length ∧ i < 40 := by simp at hc; omega
      have hlt := hc'.1
      obtain ⟨ab, ao, rfl⟩ := hb.ptr hlt
      have hV : L[i]? = some L[i] := List.getElem?_eq_getElem hlt
      have hxw : NdW L[i] := hw _ (List.getElem_mem hlt)
      generalize L[i] = x at hV hxw
      obtain ⟨s, hs⟩ : ∃ s : Int, s = IntKind.u64.wrap x.slot % 1000 := ⟨_, rfl⟩
      have hsb : 0 ≤ s ∧ s < 1000 := by rw [hs]; omega
      have hs1 : (IntKind.u64.wrap x.slot).tmod 1000 = s := by
        rw [hs]
        refine Int.tmod_eq_emod_of_nonneg ?_
        show 0 ≤ x.slot % 18446744073709551616
        omega
      obtain ⟨sn, hsn⟩ : ∃ sn : Nat, (sn : Int) = 1 + s := ⟨(1 + s).toNat, by omega⟩
      have hsn1 : 1 ≤ sn ∧ sn ≤ 1000 := by omega
      have hcs : cs[sn]? = _ := hS.2 sn (by omega)
      refine W_skip ?_
      refine W_seq ?_
      refine W_block ?_
      refine W_seq ?_
      refine W_reg rfl ?_
      refine O_qs (q_move rfl) ?_
      refine O_qs (q_move rfl) ?_
      refine O_qs (q_ian Tryz.runUnderlying22 Tryz.sizeOf105 rfl rfl hlt) ?_
      refine O_qs (q_loadN (vs := Nd.l x) Tryz.isAgg105 Tryz.sizeOf105 rfl (hb.rds hV rfl)) ?_
      refine O_es (e_alloc (cs := #[.int .i64 0, .int .u64 0, .int .u64 0, .bool false]) Tryz.zeroValue105 rfl) ?_
      rintro _ _ ⟨b6, rfl, rfl⟩
      refine O_en (e_storeN (vs := [_, _, _, _]) Tryz.sizeOf105 rfl rfl rfl (by repeat (first | exact Upd.here | apply Upd.there)) rfl (by simp only [setAll, List.setIfInBounds_toArray, List.set_cons_succ, List.set_cons_zero, Nat.reduceAdd, Nat.zero_add] <;> rfl)) ?_
      rintro _ _ ⟨rfl, rfl⟩
      refine O_nil ?_
      refine W_seq ?_
      refine W_reg rfl ?_
      refine O_qs (q_fa fa_105_0 rfl) ?_
      refine O_qs (q_load Tryz.isAgg3 rfl (rd_chunk (by repeat (first | exact List.Mem.head _ | apply List.Mem.tail)) rfl)) ?_
      refine O_qs (q_conv (c := IntKind.u64.wrap x.slot) Tryz.runUnderlying3 Tryz.runUnderlying30 rfl rfl) ?_
      refine O_qs (q_rem (c := s) (by decide) hs1 rfl rfl) ?_
      refine O_qs (q_conv (c := s) Tryz.runUnderlying30 Tryz.runUnderlying3 (w64 (by omega)) rfl) ?_
      refine O_qs (q_add (c := (sn : Int)) (w64' (by omega) (by omega)) rfl rfl) ?_
      refine O_qs (q_fa fa_105_0 rfl) ?_
      refine O_en (e_store Tryz.sizeOf3 rfl rfl rfl (by repeat (first | exact Upd.here | apply Upd.there)) rfl (by simp only [setAll, List.setIfInBounds_toArray, List.set_cons_succ, List.set_cons_zero, Nat.reduceAdd, Nat.zero_add] <;> rfl)) ?_
      rintro _ _ ⟨rfl, rfl⟩
      refine O_nil ?_
      refine W_seq ?_
      refine W_reg rfl ?_
      refine O_qs (q_fa fa_105_0 rfl) ?_
      refine O_qs (q_load Tryz.isAgg3 rfl (rd_chunk (by repeat (first | exact List.Mem.head _ | apply List.Mem.tail)) rfl)) ?_
      refine O_qs (q_iarr Tryz.runUnderlying111 Tryz.sizeOf4 rfl rfl (by omega)) ?_
      refine O_qs (q_load Tryz.isAgg4 rfl (rd_chunk (by repeat (first | exact List.Mem.head _ | apply List.Mem.tail)) (by show cs.toArray[0 + (sn : Int).toNat * 1]? = _; simpa using hcs))) ?_
      refine O_qs (q_not rfl) ?_
      refine O_nil ?_
      refine W_cond rfl ?_ ?_
      · intro hn
        have hn' : (out.any fun y => decide (y.slot = (sn : Int))) = false := by simpa using hn
        refine W_seq ?_
        refine W_reg rfl ?_
        refine O_qs (q_fa fa_105_0 rfl) ?_
        refine O_qs (q_load Tryz.isAgg3 rfl (rd_chunk (by repeat (first | exact List.Mem.head _ | apply List.Mem.tail)) rfl)) ?_
        refine O_qs (q_iarr Tryz.runUnderlying111 Tryz.sizeOf4 rfl rfl (by omega)) ?_
        have hlt2 : Nat.blt (0 + (sn : Int).toNat * 1) cs.toArray.size = true := by
          have h1 : (0 + (sn : Int).toNat * 1) = sn := by simp
          have h2 : cs.toArray.size = 1001 := by rw [List.size_toArray, hS.1]
          rw [h1, h2]
          exact Nat.ble_eq_true_of_le (by omega)
        have hset2 : cs.toArray.setIfInBounds (0 + (sn : Int).toNat * 1) (.bool true) = (cs.set sn (.bool true)).toArray := by
          have h1 : (0 + (sn : Int).toNat * 1) = sn := by simp
          rw [h1, List.setIfInBounds_toArray]
        refine O_en (e_store Tryz.sizeOf4 rfl rfl rfl (by repeat (first | exact Upd.here | apply Upd.there)) hlt2 hset2) ?_
        rintro _ _ ⟨rfl, rfl⟩
        refine O_nil ?_
        refine W_reg rfl ?_
        refine O_qs (q_move rfl) ?_
        refine O_qs (q_loadN (vs := [_, _, _, _]) Tryz.isAgg105 Tryz.sizeOf105 rfl (rd_range (by repeat (first | exact List.Mem.head _ | apply List.Mem.tail)) rfl)) ?_
        refine O_es (e_bslice (zl := [.int .i64 0, .int .u64 0, .int .u64 0, .bool false]) (cs := [_, _, _, _]) Tryz.runUnderlying22 Tryz.sizeOf105 Tryz.zeroValue105 rfl (by kernel_rfl) rfl rfl) ?_
        rintro _ _ ⟨b40, rfl, rfl⟩
        refine O_es (ap_N (N := [⟨(sn : Int), x.key, x.val, x.mark⟩]) hR2 (fun _ => (by repeat (first | exact Upd.here | apply Upd.there))) rfl rfl (src_raw (by repeat (first | exact List.Mem.head _ | apply List.Mem.tail))) (by simp; omega)) ?_
        rintro _ _ ⟨R3, hR3, rfl⟩
        refine O_qs (q_assign rfl) ?_
        refine O_nil ?_
        refine W_reg rfl ?_
        refine O_qs (q_move rfl) ?_
        refine O_qs (q_add (c := ((i + 1 : Nat) : Int)) (w64' (by omega) (by omega)) rfl rfl) ?_
        refine O_qs (q_assign rfl) ?_
        refine O_nil ?_
        obtain ⟨a3, c3, rfl⟩ := hR3.len
        refine ⟨(i + 1, a3, c3, R3, out ++ [⟨(sn : Int), x.key, x.val, x.mark⟩], cs.set sn (.bool true)), _, ?_, ?_, (by repeat (first | exact Sub.nil | refine Sub.cons rfl ?_)), (by repeat (first | exact Pick.nil | exact Take.here | apply Pick.cons | apply Take.there))⟩
        · refine ⟨hlt, hc'.2, by simp; omega, hR3, ⟨?_, ?_, ?_, by simp; omega⟩, by simp [hS.1], ?_⟩
          · rw [List.map_append, List.nodup_append]
            refine ⟨hG.nd, by simp, fun a ha b hb' => ?_⟩
            simp at hb'
            subst hb'
            obtain ⟨z, hz, rfl⟩ := List.mem_map.1 ha
            intro e
            rw [List.any_eq_false] at hn'
            exact hn' z hz (by simpa using e)
          · intro z hz
            rcases List.mem_append.1 hz with hz | hz
            · exact hG.sl z hz
            · simp only [List.mem_singleton] at hz; subst hz; dsimp only; omega
          · intro z hz
            rcases List.mem_append.1 hz with hz | hz
            · exact hG.wd z hz
            · simp only [List.mem_singleton] at hz; subst hz; exact hxw
          · intro j hj
            rw [List.getElem?_set]
            rw [List.any_append]
            by_cases e : sn = j
            · subst e
              simp [hS.1]
              omega
            · rw [if_neg e, hS.2 j hj]
              simp
              omega
        · dsimp only; omega
      · intro hn
        refine W_skip ?_
        refine W_reg rfl ?_
        refine O_qs (q_move rfl) ?_
        refine O_qs (q_add (c := ((i + 1 : Nat) : Int)) (w64' (by omega) (by omega)) rfl rfl) ?_
        refine O_qs (q_assign rfl) ?_
        refine O_nil ?_
        refine ⟨(i + 1, a2, c2, R2, out, cs), _, ?_, ?_, (by repeat (first | exact Sub.nil | refine Sub.cons rfl ?_)), (by repeat (first | exact Pick.nil | exact Take.here | apply Pick.cons | apply Take.there))⟩
        · exact ⟨hlt, hc'.2, Nat.le_succ_of_le hol, hR2, hG, hS⟩
        · dsimp only; omega
    · intro hc
      refine W_exit ?_
      refine W_seq ?_
      refine W_reg rfl ?_
      refine O_qs (q_move rfl) ?_
      refine O_qs (q_assign rfl) ?_
      refine O_nil ?_
      refine W_ret ?_
      refine res1 (c0 := [R2]) rfl rfl (by repeat (first | exact Pick.nil | exact Take.here | apply Pick.cons | apply Take.there)) rfl ?_
      exact ⟨R2, out, hR2, hG, rfl⟩
end Go.Proofs.YtbfplncdmbjjhaaGreat
