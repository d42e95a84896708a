/-
  Walks: the slots of a skip list, each once, by rising keys.
-/
import Derived.Test.YtaphhhnnplljdaaTo2
set_option linter.unusedSimpArgs false
set_option linter.unusedVariables false
namespace Go.Proofs.Ytaphhhnnplljdaa
open Go Go.SL

def klt (a b : NdT) : Bool := decide (a.key < b.key)
theorem klt_weak : Weak klt := ⟨fun a b h => by simp [klt] at h ⊢; omega, fun a b c h1 h2 => by simp [klt] at h1 h2 ⊢; omega⟩

structure GoodT (h : Nat) (S : List NdT) : Prop where
  nd : (S.map (·.slot)).Nodup
  kd : (S.map (·.key)).Nodup
  sl : ∀ x, x ∈ S → 1 ≤ x.slot ∧ x.slot ≤ 1000
  wd : ∀ x, x ∈ S → Wd x.key
  tp : ∀ x, x ∈ S → 1 ≤ x.top ∧ x.top ≤ h
  le : S.length ≤ 30
theorem GoodT.perm {h : Nat} {S S' : List NdT} (hp : S.Perm S') (g : GoodT h S) : GoodT h S' :=
  ⟨(hp.map _).nodup_iff.1 g.nd, (hp.map _).nodup_iff.1 g.kd, fun x hx => g.sl x (hp.symm.subset hx), fun x hx => g.wd x (hp.symm.subset hx), fun x hx => g.tp x (hp.symm.subset hx), by rw [← hp.length_eq]; exact g.le⟩
theorem GoodT.rise {h : Nat} {S : List NdT} (g : GoodT h S) (ho : Ord klt S S.length) : S.Pairwise fun a b => a.key < b.key := by
  have h1 := ho.pairwise
  have h2 : S.Pairwise fun a b => a.key ≠ b.key := List.pairwise_map.1 g.kd
  exact (h1.and h2).imp fun ⟨p, q⟩ => by simp [klt] at p; omega

def SeenT (cs : List Value) (out : List NdT) : Prop := cs.length = 1001 ∧ ∀ j, j < 1001 → cs[j]? = some (.bool (decide ((j : Int) ∈ out.map (·.slot))))
theorem SeenT.perm {cs : List Value} {S S' : List NdT} (hp : S.Perm S') (h : SeenT cs S) : SeenT cs S' :=
  ⟨h.1, fun j hj => by rw [h.2 j hj]; simp only [(hp.map (·.slot)).mem_iff]⟩

theorem law18_nodes (B : World) (sa : Option Addr) (n cap h : Nat) (L : List NdT) (hn : L.length = n) (hb : BaseRow layT B sa L) (hL : L.length ≤ 9223372036854775807) (hw : ∀ x, x ∈ L → Wd x.key) (hh : 1 ≤ h ∧ h ≤ 16) :
    Ctr Try.prog 40 [.slice sa n cap, .int .i64 (h : Int)] B [] (fun u c => ∃ N S, Row layT 98 N u S ∧ GoodT h S ∧ Ord klt S S.length ∧ c = [N]) := by
  subst hn
  have hbld : ∀ w, (Instr.build 148 #[]).run Try.prog w = .ok (.agg falses.toArray) w := fun w => by
    rw [← zc_eq]
    simp only [Instr.build, Sem.run_bind, Try.zeroValue148, Result.andThen_ok, Try.runUnderlying148, Try.sizeOf4, Value.cells, Instr.fill, Sem.run_pure]
  refine Ctr.intro (n := 121) Try.func40 rfl Try.ntmps40 (Nat.le_of_ble_eq_true rfl) ?_
  refine W_seq ?_
  refine W_reg rfl ?_
  refine O_qs (q_assign rfl) ?_
  refine O_nil ?_
  refine W_seq ?_
  refine W_reg rfl ?_
  refine O_es (e_bslice (zl := []) (cs := []) Try.runUnderlying95 Try.sizeOf98 Try.zeroValue98 rfl (by kernel_rfl) rfl rfl) ?_
  rintro _ _ ⟨b13, rfl, rfl⟩
  refine O_qs (q_assign rfl) ?_
  refine O_nil ?_
  refine W_seq ?_
  refine W_reg rfl ?_
  refine O_qs (q_build (ps := []) rfl hbld) ?_
  refine O_es (e_alloc (cs := falses.toArray) Try.zeroValue148 zc_eq) ?_
  rintro _ _ ⟨b6, rfl, rfl⟩
  refine O_en (e_storeAll (vs := falses) (fun w => by rw [Try.sizeOf148, falses_len]) rfl rfl falses_one (by repeat (first | exact Upd.here | apply Upd.there)) rfl) ?_
  rintro _ _ ⟨rfl, rfl⟩
  refine O_nil ?_
  refine W_seq ?_
  refine W_seq ?_
  refine W_reg rfl ?_
  refine O_qs (q_assign rfl) ?_
  refine O_nil ?_
  refine W_block ?_
  refine W_loopD (fun (d : Nat × Option Addr × Nat × Atom × List NdT × List Value) => [(7, .int .i64 (d.1 : Int)), (6, ptr b6), (5, .slice d.2.1 d.2.2.2.2.1.length d.2.2.1), (1, .int .i64 (h : Int)), (0, .slice sa L.length cap)]) (fun (_, _, _, R2, _, cs) => [R2, [(b6, .cells cs.toArray 148 (0, 0))]]) (fun d => L.length - d.1) (fun (i, a2, c2, R2, out, cs) => i ≤ L.length ∧ i ≤ 30 ∧ out.length ≤ i ∧ Row layT 98 R2 (.slice a2 out.length c2) out ∧ GoodT h out ∧ Ord klt out out.length ∧ SeenT cs out) (0, some ⟨b13, 0, none⟩, 0, [(b13, .cells #[] 98 (0, 0))], [], falses) ?_ (by repeat (first | exact Sub.nil | refine Sub.cons rfl ?_)) (by repeat (first | exact Pick.nil | exact Take.here | apply Pick.cons | apply Take.there)) ?_
  · refine ⟨Nat.zero_le _, Nat.zero_le _, Nat.le_refl _, row_empty layT b13 98, ⟨List.nodup_nil, List.nodup_nil, (fun x hx => by cases hx), (fun x hx => by cases hx), (fun x hx => by cases hx), Nat.zero_le _⟩, (fun i j x y h1 h2 => by simp at h2), falses_len, fun j hj => by rw [falses_get hj]; rfl⟩
  · rintro ⟨i, a2, c2, R2, out, cs⟩ ⟨hi, hi30, hol, hR2, hG, hO, hS⟩
    dsimp only at hi hi30 hol hR2 hG hO hS ⊢
    refine W_seq ?_
    refine W_seq ?_
    refine W_reg rfl ?_
    refine O_qs (q_move rfl) ?_
    refine O_qs (q_move rfl) ?_
    refine O_qs (q_len Try.runUnderlying95 rfl) ?_
    refine O_qs (q_lss rfl rfl) ?_
    refine O_qs (q_move rfl) ?_
    refine O_qs (QY.cond0 rfl rfl rfl (fun H => q_move rfl)) ?_
    refine O_qs (QY.cond0 rfl rfl rfl (fun H => q_lss (gvh rfl H) rfl)) ?_
    refine O_qs (q_and rfl rfl rfl) ?_
    refine O_nil ?_
    refine W_cond rfl ?_ ?_
    · intro hc
      have hc' : i < L.length ∧ i < 30 := by simp at hc; omega
      have hlt := hc'.1
      obtain ⟨ab, ao, rfl⟩ := hb.ptr hlt
      have hV : L[i]? = some L[i] := List.getElem?_eq_getElem hlt
      have hxw : Wd L[i].key := hw _ (List.getElem_mem hlt)
      generalize L[i] = x at hV hxw
      have ub : ∀ y : Int, 0 ≤ IntKind.u64.wrap y := fun y => by
        show 0 ≤ y % 18446744073709551616
        omega
      obtain ⟨s, hs⟩ : ∃ s : Int, s = IntKind.u64.wrap x.slot % 1000 := ⟨_, rfl⟩
      have hsb : 0 ≤ s ∧ s < 1000 := by rw [hs]; omega
      have hs1 : (IntKind.u64.wrap x.slot).tmod 1000 = s := by rw [hs]; exact Int.tmod_eq_emod_of_nonneg (ub _)
      obtain ⟨tp, ht⟩ : ∃ s : Int, s = IntKind.u64.wrap x.top % (h : Int) := ⟨_, rfl⟩
      have htb : 0 ≤ tp ∧ tp < h := by rw [ht]; exact ⟨Int.emod_nonneg _ (by omega), Int.emod_lt_of_pos _ (by omega)⟩
      have ht1 : (IntKind.u64.wrap x.top).tmod (h : Int) = tp := by rw [ht]; exact Int.tmod_eq_emod_of_nonneg (ub _)
      obtain ⟨mk, hm⟩ : ∃ s : Int, s = IntKind.u64.wrap x.marks % 65536 := ⟨_, rfl⟩
      have hmb : 0 ≤ mk ∧ mk < 65536 := by rw [hm]; omega
      have hm1 : (IntKind.u64.wrap x.marks).tmod 65536 = mk := by rw [hm]; exact Int.tmod_eq_emod_of_nonneg (ub _)
      obtain ⟨sn, hsn⟩ : ∃ sn : Nat, (sn : Int) = 1 + s := ⟨(1 + s).toNat, by omega⟩
      have hsn1 : 1 ≤ sn ∧ sn ≤ 1000 := by omega
      have hcs : cs[sn]? = _ := hS.2 sn (by omega)
      refine W_skip ?_
      refine W_seq ?_
      refine W_block ?_
      refine W_seq ?_
      refine W_reg rfl ?_
      refine O_qs (q_move rfl) ?_
      refine O_qs (q_move rfl) ?_
      refine O_qs (q_ian Try.runUnderlying95 Try.sizeOf98 rfl rfl hlt) ?_
      refine O_qs (q_loadN (vs := NdT.l x) Try.isAgg98 Try.sizeOf98 rfl (hb.rds hV rfl)) ?_
      refine O_es (e_alloc (cs := #[.int .i64 0, .int .u64 0, .int .i64 0, .int .i64 0]) Try.zeroValue98 rfl) ?_
      rintro _ _ ⟨b8, rfl, rfl⟩
      refine O_en (e_storeN (vs := [_, _, _, _]) Try.sizeOf98 rfl rfl rfl (by repeat (first | exact Upd.here | apply Upd.there)) rfl (by simp only [setAll, List.setIfInBounds_toArray, List.set_cons_succ, List.set_cons_zero, Nat.reduceAdd, Nat.zero_add] <;> rfl)) ?_
      rintro _ _ ⟨rfl, rfl⟩
      refine O_nil ?_
      refine W_seq ?_
      refine W_reg rfl ?_
      refine O_qs (q_fa fa_98_0 rfl) ?_
      refine O_qs (q_load Try.isAgg3 rfl (rd_chunk (by repeat (first | exact List.Mem.head _ | apply List.Mem.tail)) rfl)) ?_
      refine O_qs (q_conv (c := IntKind.u64.wrap x.slot) Try.runUnderlying3 Try.runUnderlying85 rfl rfl) ?_
      refine O_qs (q_rem (c := s) (by decide) hs1 rfl rfl) ?_
      refine O_qs (q_conv (c := s) Try.runUnderlying85 Try.runUnderlying3 (w64 (by omega)) rfl) ?_
      refine O_qs (q_add (c := (sn : Int)) (w64' (by omega) (by omega)) rfl rfl) ?_
      refine O_qs (q_fa fa_98_0 rfl) ?_
      refine O_en (e_store Try.sizeOf3 rfl rfl rfl (by repeat (first | exact Upd.here | apply Upd.there)) rfl (by simp only [setAll, List.setIfInBounds_toArray, List.set_cons_succ, List.set_cons_zero, Nat.reduceAdd, Nat.zero_add] <;> rfl)) ?_
      rintro _ _ ⟨rfl, rfl⟩
      refine O_nil ?_
      refine W_seq ?_
      refine W_reg rfl ?_
      refine O_qs (q_fa fa_98_2 rfl) ?_
      refine O_qs (q_load Try.isAgg3 rfl (rd_chunk (by repeat (first | exact List.Mem.head _ | apply List.Mem.tail)) rfl)) ?_
      refine O_qs (q_conv (c := IntKind.u64.wrap x.top) Try.runUnderlying3 Try.runUnderlying85 rfl rfl) ?_
      refine O_qs (q_move rfl) ?_
      refine O_qs (q_conv (c := (h : Int)) Try.runUnderlying3 Try.runUnderlying85 (wu64 (by omega)) rfl) ?_
      refine O_qs (q_rem (c := tp) (by omega) ht1 rfl rfl) ?_
      refine O_qs (q_conv (c := tp) Try.runUnderlying85 Try.runUnderlying3 (w64 (by omega)) rfl) ?_
      refine O_qs (q_add (c := 1 + tp) (w64 (by omega)) rfl rfl) ?_
      refine O_qs (q_fa fa_98_2 rfl) ?_
      refine O_en (e_store Try.sizeOf3 rfl rfl rfl (by repeat (first | exact Upd.here | apply Upd.there)) rfl (by simp only [setAll, List.setIfInBounds_toArray, List.set_cons_succ, List.set_cons_zero, Nat.reduceAdd, Nat.zero_add] <;> rfl)) ?_
      rintro _ _ ⟨rfl, rfl⟩
      refine O_nil ?_
      refine W_seq ?_
      refine W_reg rfl ?_
      refine O_qs (q_fa fa_98_3 rfl) ?_
      refine O_qs (q_load Try.isAgg3 rfl (rd_chunk (by repeat (first | exact List.Mem.head _ | apply List.Mem.tail)) rfl)) ?_
      refine O_qs (q_conv (c := IntKind.u64.wrap x.marks) Try.runUnderlying3 Try.runUnderlying85 rfl rfl) ?_
      refine O_qs (q_rem (c := mk) (by decide) hm1 rfl rfl) ?_
      refine O_qs (q_conv (c := mk) Try.runUnderlying85 Try.runUnderlying3 (w64 (by omega)) rfl) ?_
      refine O_qs (q_fa fa_98_3 rfl) ?_
      refine O_en (e_store Try.sizeOf3 rfl rfl rfl (by repeat (first | exact Upd.here | apply Upd.there)) rfl (by simp only [setAll, List.setIfInBounds_toArray, List.set_cons_succ, List.set_cons_zero, Nat.reduceAdd, Nat.zero_add] <;> rfl)) ?_
      rintro _ _ ⟨rfl, rfl⟩
      refine O_nil ?_
      refine W_seq ?_
      refine W_reg rfl ?_
      refine O_qs (q_assign rfl) ?_
      refine O_nil ?_
      refine W_seq ?_
      refine W_seq ?_
      refine W_reg rfl ?_
      refine O_qs (q_assign rfl) ?_
      refine O_nil ?_
      refine W_block ?_
      obtain ⟨z, hz⟩ : ∃ z : NdT, z = ⟨(sn : Int), x.key, 1 + tp, mk⟩ := ⟨_, rfl⟩
      refine W_loopD (fun (j : Nat) => [(10, .int .i64 (j : Int)), (9, .bool ((out.take j).any fun y => decide (y.key = x.key))), (8, ptr b8), (7, .int .i64 (i : Int)), (6, ptr b6), (5, .slice a2 out.length c2), (1, .int .i64 (h : Int)), (0, .slice (some ⟨ab, ao, none⟩) L.length cap)]) (fun _ => [R2, [(b6, .cells cs.toArray 148 (0, 0))], [(b8, .cells #[.int .i64 (sn : Int), .int .u64 x.key, .int .i64 (1 + tp), .int .i64 mk] 98 (0, 0))]]) (fun j => out.length - j) (fun j => j ≤ out.length) 0 ?_ (by repeat (first | exact Sub.nil | refine Sub.cons rfl ?_)) (by repeat (first | exact Pick.nil | exact Take.here | apply Pick.cons | apply Take.there)) ?_
      · exact Nat.zero_le _
      · rintro j hj
        refine W_seq ?_
        refine W_seq ?_
        refine W_reg rfl ?_
        refine O_qs (q_move rfl) ?_
        refine O_qs (q_move rfl) ?_
        refine O_qs (q_len Try.runUnderlying95 rfl) ?_
        refine O_qs (q_lss rfl rfl) ?_
        refine O_nil ?_
        refine W_cond rfl ?_ ?_
        · intro hc2
          have hjl : j < out.length := by simpa using hc2
          obtain ⟨g, cap3, e⟩ := hR2.ptr (by omega)
          simp only [Value.slice.injEq, true_and] at e
          obtain ⟨rfl, rfl⟩ := e
          have hY : out[j]? = some out[j] := List.getElem?_eq_getElem hjl
          generalize out[j] = y at hY
          have hany : ((out.take (j + 1)).any fun y => decide (y.key = x.key)) = ((out.take j).any (fun y => decide (y.key = x.key)) || decide (y.key = x.key)) := by
            rw [List.take_add_one, hY]
            simp
          refine W_skip ?_
          refine W_seq ?_
          refine W_block ?_
          refine W_draw [[], [0], [0, 1], [0, 1], [0, 1, 2, 3], [0, 1, 2, 3, 4], [0, 1, 2, 3, 4, 5], [0, 1], [0, 1, 7], [0, 1, 2, 3, 4, 5, 6, 7, 8], [0, 1, 2, 3, 4, 5, 6, 7, 8, 9], [0, 1, 2, 3, 4, 5, 6, 7, 8, 9, 10]] rfl rfl rfl ?_
          refine V.qs 0 rfl rfl (q_move rfl) ?_
          refine V.qs 1 rfl rfl (q_move rfl) ?_
          refine V.qs 2 rfl rfl (QY.cond0 rfl rfl rfl (fun H => q_move rfl)) ?_
          refine V.qs 3 rfl rfl (QY.cond0 rfl rfl rfl (fun H => q_move rfl)) ?_
          refine V.qs 4 rfl rfl (QY.cond0 rfl rfl rfl (fun H => q_ian Try.runUnderlying95 Try.sizeOf98 (gvh rfl H) (gvh rfl H) hjl)) ?_
          refine V.qs 5 rfl rfl (QY.cond0 rfl rfl rfl (fun H => q_fa fa_98_1 (gvh rfl H))) ?_
          refine V.qs 6 rfl rfl (QY.cond0 rfl rfl rfl (fun H => q_load Try.isAgg41 (gvh rfl H) (hR2.rd (by repeat (first | exact List.Mem.head _ | apply List.Mem.tail)) hY (j := 1) rfl (by show 0 + j * 4 + 1 = _; simp [layT])))) ?_
          refine V.qs 7 rfl rfl (QY.cond0 rfl rfl rfl (fun H => q_fa fa_98_1 rfl)) ?_
          refine V.qs 8 rfl rfl (QY.cond0 rfl rfl rfl (fun H => q_load Try.isAgg41 (gvh rfl H) (rd_chunk (by repeat (first | exact List.Mem.head _ | apply List.Mem.tail)) rfl))) ?_
          refine V.qs 9 rfl rfl (QY.cond0 rfl rfl rfl (fun H => q_eql (gvh rfl H) (gvh rfl H))) ?_
          refine V.qs 10 rfl rfl (q_or rfl rfl rfl) ?_
          refine V.e1s 11 [] rfl rfl rfl (EY.of_q (q_assign rfl)) ?_
          rintro _ _ ⟨rfl, rfl⟩
          refine ⟨st_nil, ?_⟩
          refine V.fin rfl ?_
          refine W_reg rfl ?_
          refine O_qs (q_move rfl) ?_
          refine O_qs (q_add (c := ((j + 1 : Nat) : Int)) (w64' (by omega) (by omega)) rfl rfl) ?_
          refine O_qs (q_assign rfl) ?_
          refine O_nil ?_
          rw [← hany]
          refine ⟨(j + 1), _, ?_, ?_, (by repeat (first | exact Sub.nil | refine Sub.cons rfl ?_)), (by repeat (first | exact Pick.nil | exact Take.here | apply Pick.cons | apply Take.there))⟩
          · exact hjl
          · omega
        · intro hc2
          have hjl : j = out.length := by simp at hc2; omega
          subst hjl
          rw [List.take_length]
          refine W_exit ?_
          refine W_seq ?_
          refine W_seq ?_
          refine W_reg rfl ?_
          refine O_qs (q_fa fa_98_0 rfl) ?_
          refine O_qs (q_load Try.isAgg3 rfl (rd_chunk (by repeat (first | exact List.Mem.head _ | apply List.Mem.tail)) rfl)) ?_
          refine O_qs (q_iarr Try.runUnderlying148 Try.sizeOf4 rfl rfl (by omega)) ?_
          refine O_qs (q_load Try.isAgg4 rfl (rd_chunk (by repeat (first | exact List.Mem.head _ | apply List.Mem.tail)) (by show cs.toArray[0 + (sn : Int).toNat * 1]? = _; simpa using hcs))) ?_
          refine O_qs (q_move rfl) ?_
          refine O_qs (QY.cond0 rfl rfl rfl (fun H => q_move rfl)) ?_
          refine O_qs (q_or rfl rfl rfl) ?_
          refine O_nil ?_
          refine W_cond rfl ?_ ?_
          · intro hb2
            refine W_exit ?_
            refine W_reg rfl ?_
            refine O_qs (q_move rfl) ?_
            refine O_qs (q_add (c := ((i + 1 : Nat) : Int)) (w64' (by omega) (by omega)) rfl rfl) ?_
            refine O_qs (q_assign rfl) ?_
            refine O_nil ?_
            refine ⟨(i + 1, a2, c2, R2, out, cs), _, ?_, ?_, (by repeat (first | exact Sub.nil | refine Sub.cons rfl ?_)), (by repeat (first | exact Pick.nil | exact Take.here | apply Pick.cons | apply Take.there))⟩
            · exact ⟨hlt, hc'.2, Nat.le_succ_of_le hol, hR2, hG, hO, hS⟩
            · dsimp only; omega
          · intro hb2
            have hb3 : (sn : Int) ∉ out.map (·.slot) ∧ (out.any fun y => decide (y.key = x.key)) = false := by
              rw [Bool.or_eq_false_iff] at hb2
              have h1 := of_decide_eq_false hb2.1
              refine ⟨fun hm => ?_, hb2.2⟩
              obtain ⟨a, ha, e⟩ := List.mem_map.1 hm
              exact h1 ⟨a, ha, e⟩
            refine W_skip ?_
            refine W_seq ?_
            refine W_reg rfl ?_
            refine O_qs (q_fa fa_98_0 rfl) ?_
            refine O_qs (q_load Try.isAgg3 rfl (rd_chunk (by repeat (first | exact List.Mem.head _ | apply List.Mem.tail)) rfl)) ?_
            refine O_qs (q_iarr Try.runUnderlying148 Try.sizeOf4 rfl rfl (by omega)) ?_
            have hlt2 : Nat.blt (0 + (sn : Int).toNat * 1) cs.toArray.size = true := by
              have h1 : (0 + (sn : Int).toNat * 1) = sn := by simp
              have h2 : cs.toArray.size = 1001 := by rw [List.size_toArray, hS.1]
              rw [h1, h2]
              exact Nat.ble_eq_true_of_le (by omega)
            have hset2 : cs.toArray.setIfInBounds (0 + (sn : Int).toNat * 1) (.bool true) = (cs.set sn (.bool true)).toArray := by
              have h1 : (0 + (sn : Int).toNat * 1) = sn := by simp
              rw [h1, List.setIfInBounds_toArray]
            refine O_en (e_store Try.sizeOf4 rfl rfl rfl (by repeat (first | exact Upd.here | apply Upd.there)) hlt2 hset2) ?_
            rintro _ _ ⟨rfl, rfl⟩
            refine O_nil ?_
            refine W_seq ?_
            refine W_reg rfl ?_
            refine O_qs (q_move rfl) ?_
            refine O_qs (q_loadN (vs := [_, _, _, _]) Try.isAgg98 Try.sizeOf98 rfl (rd_range (by repeat (first | exact List.Mem.head _ | apply List.Mem.tail)) rfl)) ?_
            refine O_es (e_bslice (zl := [.int .i64 0, .int .u64 0, .int .i64 0, .int .i64 0]) (cs := [_, _, _, _]) Try.runUnderlying95 Try.sizeOf98 Try.zeroValue98 rfl (by kernel_rfl) rfl rfl) ?_
            rintro _ _ ⟨b80, rfl, rfl⟩
            refine O_es (ap_T (N := [z]) hR2 (fun _ => (by repeat (first | exact Upd.here | apply Upd.there))) rfl rfl (by subst hz; exact src_raw (by repeat (first | exact List.Mem.head _ | apply List.Mem.tail))) (by simp; omega)) ?_
            rintro _ _ ⟨R3, hR3, rfl⟩
            refine O_qs (q_assign rfl) ?_
            refine O_nil ?_
            refine W_seq ?_
            have hol1 : (out ++ [z]).length = out.length + 1 := by simp
            have hO3 : Ord klt (out ++ [z]) out.length := by
              intro a b u v hab hb' hu hv
              rw [List.getElem?_append_left (by omega)] at hu
              rw [List.getElem?_append_left (by omega)] at hv
              exact hO a b u v hab hb' hu hv
            have hO4 : Ord klt (bub klt (out ++ [z]) out.length) (out.length + 1) := by
              refine bub_ord klt klt_weak out.length (out ++ [z]) (out.length + 1) (by omega) (by omega) ?_ ?_
              · intro a b u v hab hb1 ha hb2' hu hv
                exact hO3 a b u v hab (by omega) hu hv
              · intro j u v h1 h2
                omega
            have hG3 : GoodT h (out ++ [z]) := by
              subst hz
              refine ⟨?_, ?_, ?_, ?_, ?_, by simp; omega⟩
              · rw [List.map_append, List.nodup_append]
                refine ⟨hG.nd, by simp, fun a ha b hb' => ?_⟩
                simp at hb'
                subst hb'
                intro e
                subst e
                exact hb3.1 ha
              · rw [List.map_append, List.nodup_append]
                refine ⟨hG.kd, by simp, fun a ha b hb' => ?_⟩
                simp at hb'
                subst hb'
                obtain ⟨y, hy, rfl⟩ := List.mem_map.1 ha
                have := hb3.2
                rw [List.any_eq_false] at this
                intro e
                exact this y hy (by simpa using e)
              · intro y hy
                rcases List.mem_append.1 hy with hy | hy
                · exact hG.sl y hy
                · simp only [List.mem_singleton] at hy; subst hy; dsimp only; omega
              · intro y hy
                rcases List.mem_append.1 hy with hy | hy
                · exact hG.wd y hy
                · simp only [List.mem_singleton] at hy; subst hy; exact hxw
              · intro y hy
                rcases List.mem_append.1 hy with hy | hy
                · exact hG.tp y hy
                · simp only [List.mem_singleton] at hy; subst hy; dsimp only; omega
            have hS3 : SeenT (cs.set sn (.bool true)) (out ++ [z]) := by
              subst hz
              refine ⟨by simp [hS.1], fun j hj => ?_⟩
              rw [List.getElem?_set]
              by_cases e : sn = j
              · subst e
                simp [hS.1]
                omega
              · rw [if_neg e, hS.2 j hj]
                simp
                omega
            obtain ⟨g3, c3, rfl⟩ := hR3.ptr (by simp)
            refine W_reg rfl ?_
            refine O_qs (q_move rfl) ?_
            refine O_qs (q_len Try.runUnderlying95 rfl) ?_
            refine O_qs (q_sub (c := ((out.length : Nat) : Int)) (w64' (by simp) (by omega)) rfl rfl) ?_
            refine O_qs (q_assign rfl) ?_
            refine O_nil ?_
            refine W_block ?_
            refine W_loopD (fun (d : Nat × Atom × List NdT) => [(11, .int .i64 (d.1 : Int)), (7, .int .i64 (i : Int)), (6, ptr b6), (5, .slice (some ⟨g3, 0, none⟩) (out ++ [z]).length c3), (1, .int .i64 (h : Int)), (0, .slice (some ⟨ab, ao, none⟩) L.length cap)]) (fun (_, R4, _) => [R4, [(b6, .cells (cs.set sn (.bool true)).toArray 148 (0, 0))]]) (fun d => d.1) (fun (k, R4, S) => k < (out ++ [z]).length ∧ S.length = (out ++ [z]).length ∧ S.Perm (out ++ [z]) ∧ Row layT 98 R4 (.slice (some ⟨g3, 0, none⟩) (out ++ [z]).length c3) S ∧ bub klt (out ++ [z]) out.length = bub klt S k) (out.length, R3, out ++ [z]) ?_ (by repeat (first | exact Sub.nil | refine Sub.cons rfl ?_)) (by repeat (first | exact Pick.nil | exact Take.here | apply Pick.cons | apply Take.there)) ?_
            · exact ⟨by first | omega | (dsimp only; omega), rfl, List.Perm.refl _, hR3, rfl⟩
            · clear hR2 hR3
              rintro ⟨k, R4, S⟩ ⟨hk, hSl, hp, hR4, hbub⟩
              dsimp only at hk hSl hp hR4 hbub ⊢
              have hkx : S[k]? = some S[k] := List.getElem?_eq_getElem (by omega)
              have hky : S[k - 1]? = some S[k - 1] := List.getElem?_eq_getElem (by omega)
              generalize S[k] = u at hkx
              generalize S[k - 1] = v at hky
              have hkm : k - 1 < (out ++ [z]).length := Nat.lt_of_le_of_lt (Nat.sub_le _ _) hk
              refine W_seq ?_
              refine W_seq ?_
              refine W_draw [[], [0], [0, 1], [0, 1, 2], [0, 1, 2], [0, 1, 2, 3, 4], [0, 1, 2, 3, 4, 5], [0, 1, 2, 3, 4, 5, 6], [0, 1, 2], [0, 1, 2], [0, 1, 2, 9], [0, 1, 2, 8, 9, 10], [0, 1, 2, 8, 9, 10, 11], [0, 1, 2, 8, 9, 10, 11, 12], [0, 1, 2, 3, 4, 5, 6, 7, 8, 9, 10, 11, 12, 13], [0, 1, 2, 3, 4, 5, 6, 7, 8, 9, 10, 11, 12, 13, 14]] rfl rfl rfl ?_
              refine V.qs 0 rfl rfl (q_move rfl) ?_
              refine V.qs 1 rfl rfl (q_gtr rfl rfl) ?_
              refine V.qs 2 rfl rfl (q_move rfl) ?_
              refine V.qs 3 rfl rfl (QY.cond0 rfl rfl rfl (fun H => q_move rfl)) ?_
              refine V.qs 4 rfl rfl (QY.cond0 rfl rfl rfl (fun H => q_move rfl)) ?_
              refine V.qs 5 rfl rfl (QY.cond0 rfl rfl rfl (fun H => q_ian Try.runUnderlying95 Try.sizeOf98 (gvh rfl H) (gvh rfl H) hk)) ?_
              refine V.qs 6 rfl rfl (QY.cond0 rfl rfl rfl (fun H => q_fa fa_98_1 (gvh rfl H))) ?_
              refine V.qs 7 rfl rfl (QY.cond0 rfl rfl rfl (fun H => q_load Try.isAgg41 (gvh rfl H) (hR4.rd (by repeat (first | exact List.Mem.head _ | apply List.Mem.tail)) hkx (j := 1) rfl (by show 0 + k * 4 + 1 = _; simp [layT])))) ?_
              refine V.qs 8 rfl rfl (QY.cond0 rfl rfl rfl (fun H => q_move rfl)) ?_
              refine V.qs 9 rfl rfl (QY.cond0 rfl rfl rfl (fun H => q_move rfl)) ?_
              refine V.qs 10 rfl rfl (QY.cond0 rfl rfl rfl (fun H => q_sub (c := ((k - 1 : Nat) : Int)) (by simp at H; exact w64' (by omega) (by omega)) (gvh rfl H) rfl)) ?_
              refine V.qs 11 rfl rfl (QY.cond0 rfl rfl rfl (fun H => q_ian Try.runUnderlying95 Try.sizeOf98 (gvh rfl H) (gvh rfl H) hkm)) ?_
              refine V.qs 12 rfl rfl (QY.cond0 rfl rfl rfl (fun H => q_fa fa_98_1 (gvh rfl H))) ?_
              refine V.qs 13 rfl rfl (QY.cond0 rfl rfl rfl (fun H => q_load Try.isAgg41 (gvh rfl H) (hR4.rd (by repeat (first | exact List.Mem.head _ | apply List.Mem.tail)) hky (j := 1) rfl (by show 0 + (k - 1) * 4 + 1 = _; simp [layT])))) ?_
              refine V.qs 14 rfl rfl (QY.cond0 rfl rfl rfl (fun H => q_lss (gvh rfl H) (gvh rfl H))) ?_
              refine V.qs 15 rfl rfl (q_and rfl rfl rfl) ?_
              refine V.fin rfl ?_
              refine W_cond rfl ?_ ?_
              · intro hg
                have hg' : (decide (0 < k) && klt u v) = true := by simpa [klt] using hg
                have hk0 : 0 < k := by simp at hg'; exact hg'.1
                rw [bub_go klt hkx hky hg'] at hbub
                refine W_skip ?_
                refine W_seq ?_
                refine W_block ?_
                refine W_seq ?_
                refine W_reg rfl ?_
                refine O_qs (q_move rfl) ?_
                refine O_qs (q_move rfl) ?_
                refine O_qs (q_ian Try.runUnderlying95 Try.sizeOf98 rfl rfl hk) ?_
                refine O_qs (q_loadN (vs := NdT.l u) Try.isAgg98 Try.sizeOf98 rfl (hR4.rds (by repeat (first | exact List.Mem.head _ | apply List.Mem.tail)) hkx (by show 0 + k * 4 = _; simp [layT]))) ?_
                refine O_es (e_alloc (cs := #[.int .i64 0, .int .u64 0, .int .i64 0, .int .i64 0]) Try.zeroValue98 rfl) ?_
                rintro _ _ ⟨b12, rfl, rfl⟩
                refine O_en (e_storeN (vs := [_, _, _, _]) Try.sizeOf98 rfl rfl rfl (by repeat (first | exact Upd.here | apply Upd.there)) rfl (by simp only [setAll, List.setIfInBounds_toArray, List.set_cons_succ, List.set_cons_zero, Nat.reduceAdd, Nat.zero_add] <;> rfl)) ?_
                rintro _ _ ⟨rfl, rfl⟩
                refine O_nil ?_
                refine W_seq ?_
                refine W_reg rfl ?_
                refine O_qs (q_move rfl) ?_
                refine O_qs (q_move rfl) ?_
                refine O_qs (q_move rfl) ?_
                refine O_qs (q_move rfl) ?_
                refine O_qs (q_sub (c := ((k - 1 : Nat) : Int)) (w64' (by omega) (by omega)) rfl rfl) ?_
                refine O_qs (q_ian Try.runUnderlying95 Try.sizeOf98 rfl rfl hkm) ?_
                refine O_qs (q_loadN (vs := NdT.l v) Try.isAgg98 Try.sizeOf98 rfl (hR4.rds (by repeat (first | exact List.Mem.head _ | apply List.Mem.tail)) hky (by show 0 + (k - 1) * 4 = _; simp [layT]))) ?_
                refine O_qs (q_ian Try.runUnderlying95 Try.sizeOf98 rfl rfl hk) ?_
                refine O_en (e_storeRow (vs := NdT.l v) (a' := v) (j := 0) Try.sizeOf98 hR4 (fun _ => (by repeat (first | exact Upd.here | apply Upd.there))) hkx rfl (by show 0 + k * 4 = _; simp [layT]) rfl rfl rfl (Nat.le_of_ble_eq_true rfl)) ?_
                rintro _ _ ⟨R5, hR5, rfl, rfl⟩
                refine O_nil ?_
                refine W_reg rfl ?_
                refine O_qs (q_move rfl) ?_
                refine O_qs (q_move rfl) ?_
                refine O_qs (q_sub (c := ((k - 1 : Nat) : Int)) (w64' (by omega) (by omega)) rfl rfl) ?_
                refine O_qs (q_loadN (vs := [_, _, _, _]) Try.isAgg98 Try.sizeOf98 rfl (rd_range (by repeat (first | exact List.Mem.head _ | apply List.Mem.tail)) rfl)) ?_
                refine O_qs (q_ian Try.runUnderlying95 Try.sizeOf98 rfl rfl hkm) ?_
                have hky2 : (S.set k v)[k - 1]? = some v := by rw [List.getElem?_set_ne (by omega)]; exact hky
                refine O_en (e_storeRow (vs := NdT.l u) (a' := u) (j := 0) Try.sizeOf98 hR5 (fun _ => (by repeat (first | exact Upd.here | apply Upd.there))) hky2 rfl (by show 0 + (k - 1) * 4 = _; simp [layT]) rfl rfl rfl (Nat.le_of_ble_eq_true rfl)) ?_
                rintro _ _ ⟨R6, hR6, rfl, rfl⟩
                refine O_nil ?_
                refine W_reg rfl ?_
                refine O_qs (q_move rfl) ?_
                refine O_qs (q_sub (c := ((k - 1 : Nat) : Int)) (w64' (by omega) (by omega)) rfl rfl) ?_
                refine O_qs (q_assign rfl) ?_
                refine O_nil ?_
                refine ⟨(k - 1, R6, (S.set k v).set (k - 1) u), _, ?_, ?_, (by repeat (first | exact Sub.nil | refine Sub.cons rfl ?_)), (by repeat (first | exact Pick.nil | exact Take.here | apply Pick.cons | apply Take.there))⟩
                · exact ⟨hkm, by simpa using hSl, (swap_perm hkx hky).trans hp, hR6, hbub⟩
                · dsimp only; omega
              · intro hg
                have hg' : (decide (0 < k) && klt u v) = false := by simpa [klt] using hg
                rw [bub_stop klt hkx hky hg'] at hbub
                rw [hbub] at hO4
                refine W_exit ?_
                refine W_reg rfl ?_
                refine O_qs (q_move rfl) ?_
                refine O_qs (q_add (c := ((i + 1 : Nat) : Int)) (w64' (by omega) (by omega)) rfl rfl) ?_
                refine O_qs (q_assign rfl) ?_
                refine O_nil ?_
                rw [← hSl] at hR4 ⊢
                refine ⟨(i + 1, some ⟨g3, 0, none⟩, c3, R4, S, cs.set sn (.bool true)), _, ?_, ?_, (by repeat (first | exact Sub.nil | refine Sub.cons rfl ?_)), (by repeat (first | exact Pick.nil | exact Take.here | apply Pick.cons | apply Take.there))⟩
                · exact ⟨hlt, hc'.2, (show S.length ≤ i + 1 by omega), hR4, hG3.perm hp.symm, by rw [hSl, hol1]; exact hO4, hS3.perm hp.symm⟩
                · dsimp only; omega
    · intro hc
      refine W_exit ?_
      refine W_seq ?_
      refine W_reg rfl ?_
      refine O_qs (q_move rfl) ?_
      refine O_qs (q_assign rfl) ?_
      refine O_nil ?_
      refine W_ret ?_
      refine res1 (c0 := [R2]) rfl rfl (by repeat (first | exact Pick.nil | exact Take.here | apply Pick.cons | apply Take.there)) rfl ?_
      exact ⟨R2, out, hR2, hG, hO, rfl⟩
end Go.Proofs.Ytaphhhnnplljdaa
