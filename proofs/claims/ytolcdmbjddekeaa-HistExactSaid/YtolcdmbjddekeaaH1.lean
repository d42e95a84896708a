/-
  Walks: hist, the small functions.
-/
import Derived.Test.YtolcdmbjddekeaaTy
import Derived.Test.YtolcdmbjddekeaaMod
import Derived.Test.YtolcdmbjddekeaaRow
set_option linter.unusedSimpArgs false
set_option linter.unusedVariables false
namespace Go.Proofs.Ytolcdmbjddekeaa
open Go Go.SL

theorem hist_Ahead (B : World) (a b : HCall) : Ctr Try.prog 11 [a.v, b.v] B [] (fun v c => v = .bool (a.ahead b) ∧ c = []) := by
  refine Ctr.intro (n := 15) Try.func11 rfl Try.ntmps11 (Nat.le_of_ble_eq_true rfl) ?_
  refine W_seq ?_
  refine W_reg rfl ?_
  refine O_es (e_box (cs := #[_, _, _, _, _, _, _, _, _, _, _]) rfl rfl) ?_
  rintro _ _ ⟨b2, rfl, rfl⟩
  refine O_es (e_box (cs := #[_, _, _, _, _, _, _, _, _, _, _]) rfl rfl) ?_
  rintro _ _ ⟨b3, rfl, rfl⟩
  refine O_qs (q_assign rfl) ?_
  refine O_nil ?_
  refine W_seq ?_
  refine W_reg rfl ?_
  refine O_qs (q_fa fa_44_4 rfl) ?_
  refine O_qs (q_load Try.isAgg3 rfl (rd_chunk (by repeat (first | exact List.Mem.head _ | apply List.Mem.tail)) rfl)) ?_
  refine O_qs (q_neq rfl rfl) ?_
  refine O_qs (q_move rfl) ?_
  refine O_qs (QY.cond0 rfl rfl rfl (fun H => q_fa fa_44_4 rfl)) ?_
  refine O_qs (QY.cond0 rfl rfl rfl (fun H => q_load Try.isAgg3 (gvh rfl H) (rd_chunk (by repeat (first | exact List.Mem.head _ | apply List.Mem.tail)) rfl))) ?_
  refine O_qs (QY.cond0 rfl rfl rfl (fun H => q_fa fa_44_3 rfl)) ?_
  refine O_qs (QY.cond0 rfl rfl rfl (fun H => q_load Try.isAgg3 (gvh rfl H) (rd_chunk (by repeat (first | exact List.Mem.head _ | apply List.Mem.tail)) rfl))) ?_
  refine O_qs (QY.cond0 rfl rfl rfl (fun H => q_lss (gvh rfl H) (gvh rfl H))) ?_
  refine O_qs (q_and rfl rfl rfl) ?_
  refine O_qs (q_assign rfl) ?_
  refine O_nil ?_
  refine W_ret ?_
  refine res1 rfl rfl (by repeat (first | exact Pick.nil | exact Take.here | apply Pick.cons | apply Take.there)) rfl ?_
  refine ⟨?_, rfl⟩
  simp [HCall.ahead]

theorem hist_isBad (B : World) (a : HCall) : Ctr Try.prog 21 [a.v] B [] (fun v c => v = .bool a.bad ∧ c = []) := by
  refine Ctr.intro (n := 29) Try.func21 rfl Try.ntmps21 (Nat.le_of_ble_eq_true rfl) ?_
  refine W_seq ?_
  refine W_reg rfl ?_
  refine O_es (e_box (cs := #[_, _, _, _, _, _, _, _, _, _, _]) rfl rfl) ?_
  rintro _ _ ⟨b1, rfl, rfl⟩
  refine O_qs (q_assign rfl) ?_
  refine O_nil ?_
  refine W_seq ?_
  refine W_reg rfl ?_
  refine O_qs (q_fa fa_44_3 rfl) ?_
  refine O_qs (q_load Try.isAgg3 rfl (rd_chunk (by repeat (first | exact List.Mem.head _ | apply List.Mem.tail)) rfl)) ?_
  refine O_qs (q_lss rfl rfl) ?_
  refine O_qs (q_move rfl) ?_
  refine O_qs (QY.cond0 rfl rfl rfl (fun H => q_fa fa_44_4 rfl)) ?_
  refine O_qs (QY.cond0 rfl rfl rfl (fun H => q_load Try.isAgg3 (gvh rfl H) (rd_chunk (by repeat (first | exact List.Mem.head _ | apply List.Mem.tail)) rfl))) ?_
  refine O_qs (QY.cond0 rfl rfl rfl (fun H => q_fa fa_44_3 rfl)) ?_
  refine O_qs (QY.cond0 rfl rfl rfl (fun H => q_load Try.isAgg3 (gvh rfl H) (rd_chunk (by repeat (first | exact List.Mem.head _ | apply List.Mem.tail)) rfl))) ?_
  refine O_qs (QY.cond0 rfl rfl rfl (fun H => q_lss (gvh rfl H) (gvh rfl H))) ?_
  refine O_qs (QY.cond0 rfl rfl rfl (fun H => q_move (gvh rfl H))) ?_
  refine O_qs (QY.condn rfl rfl rfl (fun H => q_fa fa_44_4 rfl)) ?_
  refine O_qs (QY.condn rfl rfl rfl (fun H => q_load Try.isAgg3 (gvh rfl H) (rd_chunk (by repeat (first | exact List.Mem.head _ | apply List.Mem.tail)) rfl))) ?_
  refine O_qs (QY.condn rfl rfl rfl (fun H => q_neq (gvh rfl H) rfl)) ?_
  refine O_qs (QY.cond0 rfl rfl rfl (fun H => q_and (gvh rfl H) (gva rfl H) rfl)) ?_
  refine O_qs (q_or rfl rfl rfl) ?_
  refine O_qs (q_move rfl) ?_
  refine O_qs (QY.cond0 rfl rfl rfl (fun H => q_fa fa_44_4 rfl)) ?_
  refine O_qs (QY.cond0 rfl rfl rfl (fun H => q_load Try.isAgg3 (gvh rfl H) (rd_chunk (by repeat (first | exact List.Mem.head _ | apply List.Mem.tail)) rfl))) ?_
  refine O_qs (QY.cond0 rfl rfl rfl (fun H => q_eql (gvh rfl H) rfl)) ?_
  refine O_qs (QY.cond0 rfl rfl rfl (fun H => q_move (gvh rfl H))) ?_
  refine O_qs (QY.condn rfl rfl rfl (fun H => q_fa fa_44_5 rfl)) ?_
  refine O_qs (QY.condn rfl rfl rfl (fun H => q_loadN (vs := [_, _, _]) Try.isAgg30 Try.sizeOf30 (gvh rfl H) (rd_range (by repeat (first | exact List.Mem.head _ | apply List.Mem.tail)) rfl))) ?_
  refine O_qs (QY.condn rfl rfl rfl (fun H => q_build rfl (bld_30 (cs := [_, _, _]) rfl))) ?_
  refine O_qs (QY.condn rfl rfl rfl (fun H => q_bin neq_30 (gvh rfl H) (gvh rfl H))) ?_
  refine O_qs (QY.cond0 rfl rfl rfl (fun H => q_and (gvh rfl H) (gva rfl H) rfl)) ?_
  refine O_qs (q_or rfl rfl rfl) ?_
  refine O_qs (q_assign rfl) ?_
  refine O_nil ?_
  refine W_ret ?_
  refine res1 rfl rfl (by repeat (first | exact Pick.nil | exact Take.here | apply Pick.cons | apply Take.there)) rfl ?_
  refine ⟨?_, rfl⟩
  obtain ⟨th, at_, ⟨ok, okey, oval, olev⟩, fr, to_, ⟨er, dn, vl⟩⟩ := a
  first | rfl | (congr 1; rw [Bool.eq_iff_iff]; simp [HCall.bad, Ans.zero])

theorem hist_clash (B : World) (a b : HCall) : Ctr Try.prog 24 [a.v, b.v] B [] (fun v c => v = .bool (a.clash b) ∧ c = []) := by
  refine Ctr.intro (n := 36) Try.func24 rfl Try.ntmps24 (Nat.le_of_ble_eq_true rfl) ?_
  refine W_seq ?_
  refine W_reg rfl ?_
  refine O_es (e_box (cs := #[_, _, _, _, _, _, _, _, _, _, _]) rfl rfl) ?_
  rintro _ _ ⟨b2, rfl, rfl⟩
  refine O_es (e_box (cs := #[_, _, _, _, _, _, _, _, _, _, _]) rfl rfl) ?_
  rintro _ _ ⟨b3, rfl, rfl⟩
  refine O_qs (q_assign rfl) ?_
  refine O_nil ?_
  refine W_seq ?_
  refine W_reg rfl ?_
  refine O_qs (q_fa fa_44_0 rfl) ?_
  refine O_qs (q_load Try.isAgg3 rfl (rd_chunk (by repeat (first | exact List.Mem.head _ | apply List.Mem.tail)) rfl)) ?_
  refine O_qs (q_fa fa_44_0 rfl) ?_
  refine O_qs (q_load Try.isAgg3 rfl (rd_chunk (by repeat (first | exact List.Mem.head _ | apply List.Mem.tail)) rfl)) ?_
  refine O_qs (q_eql rfl rfl) ?_
  refine O_qs (q_move rfl) ?_
  refine O_qs (QY.cond0 rfl rfl rfl (fun H => q_loadN (vs := [_, _, _, _, _, _, _, _, _, _, _]) Try.isAgg44 Try.sizeOf44 rfl (rd_range (by repeat (first | exact List.Mem.head _ | apply List.Mem.tail)) rfl))) ?_
  refine O_qs (QY.cond0 rfl rfl rfl (fun H => q_loadN (vs := [_, _, _, _, _, _, _, _, _, _, _]) Try.isAgg44 Try.sizeOf44 rfl (rd_range (by repeat (first | exact List.Mem.head _ | apply List.Mem.tail)) rfl))) ?_
  refine O_qs (QY.cond0 rfl rfl rfl (fun H => q_cf Try.call11 (ev_cons (gvh rfl H) (ev_cons (gvh rfl H) ev_nil)) (fun wd hwd => hist_Ahead _ _ _) (by repeat (first | exact Pick.nil | exact Take.here | apply Pick.cons | apply Take.there)))) ?_
  refine O_qs (QY.cond0 rfl rfl rfl (fun H => q_move (gvh rfl H))) ?_
  refine O_qs (QY.condn rfl rfl rfl (fun H => q_fa fa_44_1 rfl)) ?_
  refine O_qs (QY.condn rfl rfl rfl (fun H => q_load Try.isAgg3 (gvh rfl H) (rd_chunk (by repeat (first | exact List.Mem.head _ | apply List.Mem.tail)) rfl))) ?_
  refine O_qs (QY.condn rfl rfl rfl (fun H => q_fa fa_44_1 rfl)) ?_
  refine O_qs (QY.condn rfl rfl rfl (fun H => q_load Try.isAgg3 (gvh rfl H) (rd_chunk (by repeat (first | exact List.Mem.head _ | apply List.Mem.tail)) rfl))) ?_
  refine O_qs (QY.condn rfl rfl rfl (fun H => q_lss (gvh rfl H) (gvh rfl H))) ?_
  refine O_qs (QY.cond0 rfl rfl rfl (fun H => q_and (gvh rfl H) (gva rfl H) rfl)) ?_
  refine O_qs (QY.cond0 rfl rfl rfl (fun H => q_not (gvh rfl H))) ?_
  refine O_qs (q_and rfl rfl rfl) ?_
  refine O_qs (q_move rfl) ?_
  refine O_qs (QY.cond0 rfl rfl rfl (fun H => q_loadN (vs := [_, _, _, _, _, _, _, _, _, _, _]) Try.isAgg44 Try.sizeOf44 rfl (rd_range (by repeat (first | exact List.Mem.head _ | apply List.Mem.tail)) rfl))) ?_
  refine O_qs (QY.cond0 rfl rfl rfl (fun H => q_loadN (vs := [_, _, _, _, _, _, _, _, _, _, _]) Try.isAgg44 Try.sizeOf44 rfl (rd_range (by repeat (first | exact List.Mem.head _ | apply List.Mem.tail)) rfl))) ?_
  refine O_qs (QY.cond0 rfl rfl rfl (fun H => q_cf Try.call11 (ev_cons (gvh rfl H) (ev_cons (gvh rfl H) ev_nil)) (fun wd hwd => hist_Ahead _ _ _) (by repeat (first | exact Pick.nil | exact Take.here | apply Pick.cons | apply Take.there)))) ?_
  refine O_qs (QY.cond0 rfl rfl rfl (fun H => q_move (gvh rfl H))) ?_
  refine O_qs (QY.condn rfl rfl rfl (fun H => q_fa fa_44_1 rfl)) ?_
  refine O_qs (QY.condn rfl rfl rfl (fun H => q_load Try.isAgg3 (gvh rfl H) (rd_chunk (by repeat (first | exact List.Mem.head _ | apply List.Mem.tail)) rfl))) ?_
  refine O_qs (QY.condn rfl rfl rfl (fun H => q_fa fa_44_1 rfl)) ?_
  refine O_qs (QY.condn rfl rfl rfl (fun H => q_load Try.isAgg3 (gvh rfl H) (rd_chunk (by repeat (first | exact List.Mem.head _ | apply List.Mem.tail)) rfl))) ?_
  refine O_qs (QY.condn rfl rfl rfl (fun H => q_lss (gvh rfl H) (gvh rfl H))) ?_
  refine O_qs (QY.cond0 rfl rfl rfl (fun H => q_and (gvh rfl H) (gva rfl H) rfl)) ?_
  refine O_qs (QY.cond0 rfl rfl rfl (fun H => q_not (gvh rfl H))) ?_
  refine O_qs (q_and rfl rfl rfl) ?_
  refine O_qs (q_assign rfl) ?_
  refine O_nil ?_
  refine W_ret ?_
  refine res1 rfl rfl (by repeat (first | exact Pick.nil | exact Take.here | apply Pick.cons | apply Take.there)) rfl ?_
  refine ⟨?_, rfl⟩
  first | rfl | (congr 1; rw [Bool.eq_iff_iff]; simp [HCall.clash])
end Go.Proofs.Ytolcdmbjddekeaa
