/-
  Walks: fields and links.
-/
import Derived.Test.YtbfplncdmbjjhaaGreatTy
import Derived.Test.YtbfplncdmbjjhaaGreatBits
import Derived.Test.YtbfplncdmbjjhaaGreatMap
set_option linter.unusedSimpArgs false
set_option linter.unusedVariables false
namespace Go.Proofs.YtbfplncdmbjjhaaGreat
open Go Go.SL

/-- The three fields of a link. -/
def IsF (a d : Int) : Prop := (a = 0 ∧ d = 40) ∨ (a = 40 ∧ d = 23) ∨ (a = 63 ∧ d = 1)
def fmax (d : Int) : Int := if d = 40 then 1099511627775 else if d = 23 then 8388607 else 1

theorem field_Is (B : World) (a d : Int) (h : IsF a d) : Ctr Tryz.prog 153 [.agg #[.int .i64 a, .int .i64 d]] B [] (fun v c => v = .bool true ∧ c = []) := by
  have hb : 0 ≤ a ∧ a ≤ 63 ∧ 1 ≤ d ∧ d ≤ 40 ∧ a + d ≤ 64 := by rcases h with ⟨rfl, rfl⟩ | ⟨rfl, rfl⟩ | ⟨rfl, rfl⟩ <;> omega
  refine Ctr.intro (n := 24) Tryz.func153 rfl Tryz.ntmps153 (Nat.le_of_ble_eq_true rfl) ?_
  refine W_seq ?_
  refine W_reg rfl ?_
  refine O_es (e_box (cs := #[_, _]) rfl rfl) ?_
  rintro _ _ ⟨b1, rfl, rfl⟩
  refine O_qs (q_assign rfl) ?_
  refine O_nil ?_
  refine W_seq ?_
  refine W_reg rfl ?_
  refine O_qs (q_fa fa_217_0 rfl) ?_
  refine O_qs (q_load Tryz.isAgg3 rfl (rd_chunk (by repeat (first | exact List.Mem.head _ | apply List.Mem.tail)) rfl)) ?_
  refine O_qs (q_geq rfl rfl) ?_
  refine O_qs (q_move rfl) ?_
  refine O_qs (QY.cond0 rfl rfl rfl (fun H => q_fa fa_217_1 rfl)) ?_
  refine O_qs (QY.cond0 rfl rfl rfl (fun H => q_load Tryz.isAgg3 (gvh rfl H) (rd_chunk (by repeat (first | exact List.Mem.head _ | apply List.Mem.tail)) rfl))) ?_
  refine O_qs (QY.cond0 rfl rfl rfl (fun H => q_geq (gvh rfl H) rfl)) ?_
  refine O_qs (q_and rfl rfl rfl) ?_
  refine O_qs (q_move rfl) ?_
  refine O_qs (QY.cond0 rfl rfl rfl (fun H => q_fa fa_217_1 rfl)) ?_
  refine O_qs (QY.cond0 rfl rfl rfl (fun H => q_load Tryz.isAgg3 (gvh rfl H) (rd_chunk (by repeat (first | exact List.Mem.head _ | apply List.Mem.tail)) rfl))) ?_
  refine O_qs (QY.cond0 rfl rfl rfl (fun H => q_leq (gvh rfl H) rfl)) ?_
  refine O_qs (q_and rfl rfl rfl) ?_
  refine O_qs (q_move rfl) ?_
  refine O_qs (QY.cond0 rfl rfl rfl (fun H => q_fa fa_217_0 rfl)) ?_
  refine O_qs (QY.cond0 rfl rfl rfl (fun H => q_load Tryz.isAgg3 (gvh rfl H) (rd_chunk (by repeat (first | exact List.Mem.head _ | apply List.Mem.tail)) rfl))) ?_
  refine O_qs (QY.cond0 rfl rfl rfl (fun H => q_fa fa_217_1 rfl)) ?_
  refine O_qs (QY.cond0 rfl rfl rfl (fun H => q_load Tryz.isAgg3 (gvh rfl H) (rd_chunk (by repeat (first | exact List.Mem.head _ | apply List.Mem.tail)) rfl))) ?_
  refine O_qs (QY.cond0 rfl rfl rfl (fun H => q_sub (w64 (by omega)) rfl (gvh rfl H))) ?_
  refine O_qs (QY.cond0 rfl rfl rfl (fun H => q_leq (gvh rfl H) (gvh rfl H))) ?_
  refine O_qs (q_and rfl rfl rfl) ?_
  refine O_qs (q_assign rfl) ?_
  refine O_nil ?_
  refine W_ret ?_
  refine res1 rfl rfl (by repeat (first | exact Pick.nil | exact Take.here | apply Pick.cons | apply Take.there)) rfl ?_
  refine ⟨?_, rfl⟩
  simp
  omega

theorem field_Max (B : World) (a d : Int) (h : IsF a d) : Ctr Tryz.prog 152 [.agg #[.int .i64 a, .int .i64 d]] B [] (fun v c => v = .int .u64 (fmax d) ∧ c = []) := by
  have hb : 0 ≤ a ∧ a ≤ 63 ∧ 1 ≤ d ∧ d ≤ 40 ∧ a + d ≤ 64 := by rcases h with ⟨rfl, rfl⟩ | ⟨rfl, rfl⟩ | ⟨rfl, rfl⟩ <;> omega
  refine Ctr.intro (n := 11) Tryz.func152 rfl Tryz.ntmps152 (Nat.le_of_ble_eq_true rfl) ?_
  refine W_seq ?_
  refine W_reg rfl ?_
  refine O_es (e_box (cs := #[_, _]) rfl rfl) ?_
  rintro _ _ ⟨b1, rfl, rfl⟩
  refine O_qs (q_assign rfl) ?_
  refine O_nil ?_
  refine W_seq ?_
  refine W_seq ?_
  refine W_reg rfl ?_
  refine O_qs (q_loadN (vs := [_, _]) Tryz.isAgg217 Tryz.sizeOf217 rfl (rd_range (by repeat (first | exact List.Mem.head _ | apply List.Mem.tail)) rfl)) ?_
  refine O_qs (q_cf Tryz.call153 rfl (fun wd hwd => field_Is _ a d h) (by repeat (first | exact Pick.nil | exact Take.here | apply Pick.cons | apply Take.there))) ?_
  refine O_qs (q_not rfl) ?_
  refine O_nil ?_
  refine W_false rfl ?_
  refine W_skip ?_
  refine W_seq ?_
  refine W_reg rfl ?_
  refine O_qs (q_fa fa_217_1 rfl) ?_
  refine O_qs (q_load Tryz.isAgg3 rfl (rd_chunk (by repeat (first | exact List.Mem.head _ | apply List.Mem.tail)) rfl)) ?_
  refine O_qs (q_sub (w64 (by omega)) rfl rfl) ?_
  refine O_qs (q_conv Tryz.runUnderlying3 Tryz.runUnderlying30 (wu64 (by omega)) rfl) ?_
  refine O_qs (q_shr (c := fmax d) (by omega) (by rcases h with ⟨rfl, rfl⟩ | ⟨rfl, rfl⟩ | ⟨rfl, rfl⟩ <;> rfl) rfl rfl) ?_
  refine O_qs (q_assign rfl) ?_
  refine O_nil ?_
  refine W_ret ?_
  refine res1 rfl rfl (by repeat (first | exact Pick.nil | exact Take.here | apply Pick.cons | apply Take.there)) rfl ?_
  exact ⟨rfl, rfl⟩

/-- What the field at a of width d is laid into. -/
theorem put_step (a d w x : Int) (h : IsF a d) (hw : 0 ≤ w ∧ w < 2 ^ a.toNat) (hx : 0 ≤ x ∧ x ≤ fmax d) :
    IntKind.u64.wrap ((BitVec.ofInt IntKind.u64.bits (IntKind.u64.wrap ((BitVec.ofInt IntKind.u64.bits w &&& ~~~(BitVec.ofInt IntKind.u64.bits (IntKind.u64.wrap (fmax d * 2 ^ (min a.toNat IntKind.u64.bits))))).toNat : Nat)) |||
      BitVec.ofInt IntKind.u64.bits (IntKind.u64.wrap (x * 2 ^ (min a.toNat IntKind.u64.bits)))).toNat : Nat) = w + x * 2 ^ a.toNat := by
  obtain ⟨w, rfl⟩ := Int.eq_ofNat_of_zero_le hw.1
  obtain ⟨x, rfl⟩ := Int.eq_ofNat_of_zero_le hx.1
  have key : ∀ (an dn : Nat), an + dn ≤ 64 → w < 2 ^ an → x < 2 ^ dn → ∀ (fm : Int), fm = ((2 ^ dn - 1 : Nat) : Int) →
      IntKind.u64.wrap ((BitVec.ofInt 64 (IntKind.u64.wrap ((BitVec.ofInt 64 (w : Int) &&& ~~~(BitVec.ofInt 64 (IntKind.u64.wrap (fm * 2 ^ an)))).toNat : Nat)) ||| BitVec.ofInt 64 (IntKind.u64.wrap ((x : Int) * 2 ^ an))).toNat : Nat) = (w : Int) + x * 2 ^ an := by
    intro an dn had hwa hxd fm hfm
    subst hfm
    have hp : (2 : Nat) ^ (an + dn) ≤ 2 ^ 64 := Nat.pow_le_pow_right (by omega) had
    have hp2 : (2 : Nat) ^ an * 2 ^ dn = 2 ^ (an + dn) := (Nat.pow_add 2 an dn).symm
    have hd0 : 0 < (2 : Nat) ^ dn := Nat.pow_pos (by omega)
    have ha0 : 0 < (2 : Nat) ^ an := Nat.pow_pos (by omega)
    have b1 : (2 ^ dn - 1) * 2 ^ an < 2 ^ 64 := by
      have : (2 ^ dn - 1) * 2 ^ an < 2 ^ dn * 2 ^ an := Nat.mul_lt_mul_of_pos_right (by omega) ha0
      rw [Nat.mul_comm (2 ^ dn)] at this
      omega
    have b2 : x * 2 ^ an < 2 ^ 64 := by
      have : x * 2 ^ an ≤ (2 ^ dn - 1) * 2 ^ an := Nat.mul_le_mul_right _ (by omega)
      omega
    have c1 : (((2 ^ dn - 1 : Nat) : Int) * 2 ^ an) = (((2 ^ dn - 1) * 2 ^ an : Nat) : Int) := by push_cast; rfl
    have c2 : ((x : Int) * 2 ^ an) = ((x * 2 ^ an : Nat) : Int) := by push_cast; rfl
    have e1 : IntKind.u64.wrap (((2 ^ dn - 1) * 2 ^ an : Nat) : Int) = (((2 ^ dn - 1) * 2 ^ an : Nat) : Int) := wrapU (by omega) (by omega)
    have e2 : IntKind.u64.wrap ((x * 2 ^ an : Nat) : Int) = ((x * 2 ^ an : Nat) : Int) := wrapU (by omega) (by omega)
    rw [c1, c2, e1, e2]
    simp only [wrap_toNat, bv_ofInt, BitVec.ofNat_toNat, BitVec.setWidth_eq]
    rw [put_bits had hwa hxd]
    push_cast
    rfl
  rcases h with ⟨rfl, rfl⟩ | ⟨rfl, rfl⟩ | ⟨rfl, rfl⟩
  · exact key 0 40 (by omega) (by simp at hw; omega) (by simp [fmax] at hx; omega) _ rfl
  · exact key 40 23 (by omega) (by simp at hw; omega) (by simp [fmax] at hx; omega) _ rfl
  · exact key 63 1 (by omega) (by simp at hw; omega) (by simp [fmax] at hx; omega) _ rfl

theorem field_Put (B : World) (a d w x : Int) (h : IsF a d) (hw : 0 ≤ w ∧ w < 2 ^ a.toNat) (hx : 0 ≤ x ∧ x ≤ fmax d) :
    Ctr Tryz.prog 145 [.agg #[.int .i64 a, .int .i64 d], .int .u64 w, .int .u64 x] B [] (fun v c => v = .tuple #[.int .u64 (w + x * 2 ^ a.toNat), .bool true] ∧ c = []) := by
  have hb : 0 ≤ a ∧ a ≤ 63 ∧ 1 ≤ d ∧ d ≤ 40 ∧ a + d ≤ 64 := by rcases h with ⟨rfl, rfl⟩ | ⟨rfl, rfl⟩ | ⟨rfl, rfl⟩ <;> omega
  refine Ctr.intro (n := 31) Tryz.func145 rfl Tryz.ntmps145 (Nat.le_of_ble_eq_true rfl) ?_
  refine W_seq ?_
  refine W_reg rfl ?_
  refine O_es (e_box (cs := #[_, _]) rfl rfl) ?_
  rintro _ _ ⟨b3, rfl, rfl⟩
  refine O_qs (q_assign rfl) ?_
  refine O_qs (q_assign rfl) ?_
  refine O_nil ?_
  refine W_seq ?_
  refine W_seq ?_
  refine W_reg rfl ?_
  refine O_qs (q_loadN (vs := [_, _]) Tryz.isAgg217 Tryz.sizeOf217 rfl (rd_range (by repeat (first | exact List.Mem.head _ | apply List.Mem.tail)) rfl)) ?_
  refine O_qs (q_cf Tryz.call153 rfl (fun wd hwd => field_Is _ a d h) (by repeat (first | exact Pick.nil | exact Take.here | apply Pick.cons | apply Take.there))) ?_
  refine O_qs (q_not rfl) ?_
  refine O_qs (q_move rfl) ?_
  refine O_qs (QY.cond0 rfl rfl rfl (fun H => q_move rfl)) ?_
  refine O_qs (QY.cond0 rfl rfl rfl (fun H => q_loadN (vs := [_, _]) Tryz.isAgg217 Tryz.sizeOf217 rfl (rd_range (by repeat (first | exact List.Mem.head _ | apply List.Mem.tail)) rfl))) ?_
  refine O_qs (QY.cond0 rfl rfl rfl (fun H => q_cf Tryz.call152 (ev_cons (gvh rfl H) ev_nil) (fun wd hwd => field_Max _ a d h) (by repeat (first | exact Pick.nil | exact Take.here | apply Pick.cons | apply Take.there)))) ?_
  refine O_qs (QY.cond0 rfl rfl rfl (fun H => q_gtr (gvh rfl H) (gvh rfl H))) ?_
  refine O_qs (q_or rfl rfl rfl) ?_
  refine O_nil ?_
  refine W_fa rfl ((by simp; omega)) ?_
  refine W_skip ?_
  refine W_seq ?_
  refine W_draw [[], [], [1], [], [3], [3, 4], [1, 2, 3, 4, 5], [0, 1, 2, 3, 4, 5, 6], [], [], [9], [9, 10], [8, 9, 10, 11], [0, 1, 2, 3, 4, 5, 6, 7, 8, 9, 10, 11, 12], [0, 1, 2, 3, 4, 5, 6, 7, 8, 9, 10, 11, 12, 13], [0, 1, 2, 3, 4, 5, 6, 7, 8, 9, 10, 11, 12, 13, 14]] rfl rfl rfl ?_
  refine V.qs 0 rfl rfl (q_move rfl) ?_
  refine V.qs 1 rfl rfl (q_loadN (vs := [_, _]) Tryz.isAgg217 Tryz.sizeOf217 rfl (rd_range (by repeat (first | exact List.Mem.head _ | apply List.Mem.tail)) rfl)) ?_
  refine V.qs 3 rfl rfl (q_fa fa_217_0 rfl) ?_
  refine V.qs 4 rfl rfl (q_load Tryz.isAgg3 rfl (rd_chunk (by repeat (first | exact List.Mem.head _ | apply List.Mem.tail)) rfl)) ?_
  refine V.qs 5 rfl rfl (q_conv Tryz.runUnderlying3 Tryz.runUnderlying30 (wu64 (by omega)) rfl) ?_
  refine V.qs 8 rfl rfl (q_move rfl) ?_
  refine V.qs 9 rfl rfl (q_fa fa_217_0 rfl) ?_
  refine V.qs 10 rfl rfl (q_load Tryz.isAgg3 rfl (rd_chunk (by repeat (first | exact List.Mem.head _ | apply List.Mem.tail)) rfl)) ?_
  refine V.qs 11 rfl rfl (q_conv Tryz.runUnderlying3 Tryz.runUnderlying30 (wu64 (by omega)) rfl) ?_
  refine V.qs 12 rfl rfl (q_shl (by omega) rfl rfl rfl) ?_
  refine V.qs 2 rfl rfl (q_cf Tryz.call152 rfl (fun wd hwd => field_Max _ a d h) (by repeat (first | exact Pick.nil | exact Take.here | apply Pick.cons | apply Take.there))) ?_
  refine V.qs 6 rfl rfl (q_shl (by omega) rfl rfl rfl) ?_
  refine V.qs 7 rfl rfl (q_andNot rfl rfl rfl) ?_
  refine V.qs 13 rfl rfl (q_orI (put_step a d w x h hw hx) rfl rfl) ?_
  refine V.qs 14 rfl rfl (q_assign rfl) ?_
  refine V.qs 15 rfl rfl (q_assign rfl) ?_
  refine V.fin rfl ?_
  refine W_ret ?_
  refine res2 rfl rfl rfl (by repeat (first | exact Pick.nil | exact Take.here | apply Pick.cons | apply Take.there)) rfl ?_
  exact ⟨rfl, rfl⟩

/-- The word of a link. -/
def lword (mark : Bool) (slot ver : Int) : Int := if 0 ≤ slot ∧ slot ≤ 8388607 ∧ 0 ≤ ver ∧ ver ≤ 1099511627775 then ver + slot * 1099511627776 + (if mark then 9223372036854775808 else 0) else 0
def lbool (slot ver : Int) : Bool := decide (0 ≤ slot) && decide (slot ≤ 8388607) && decide (0 ≤ ver) && decide (ver ≤ 1099511627775)

@[reducible] def fieldsC : Array Value := #[.int .i64 0, .int .i64 40, .int .i64 40, .int .i64 23, .int .i64 63, .int .i64 1]

theorem link_fields (B : World) : Ctr Tryz.prog 132 [] B [] (fun v c => ∃ b, v = .slice (some ⟨b, 0, none⟩) 3 3 ∧ c = [[(b, .cells fieldsC 217 (0, 0))]]) := by
  refine Ctr.intro (n := 5) Tryz.func132 rfl Tryz.ntmps132 (Nat.le_of_ble_eq_true rfl) ?_
  refine W_seq ?_
  refine W_reg rfl ?_
  refine O_qs (q_assign rfl) ?_
  refine O_nil ?_
  refine W_seq ?_
  refine W_reg rfl ?_
  refine O_qs (q_build rfl (bld_217 (cs := [_, _]) rfl)) ?_
  refine O_qs (q_build rfl (bld_217 (cs := [_, _]) rfl)) ?_
  refine O_qs (q_build rfl (bld_217 (cs := [_, _]) rfl)) ?_
  refine O_es (e_bslice (zl := [.int .i64 0, .int .i64 0, .int .i64 0, .int .i64 0, .int .i64 0, .int .i64 0]) (cs := [_, _, _, _, _, _]) Tryz.runUnderlying202 Tryz.sizeOf217 Tryz.zeroValue217 rfl (by kernel_rfl) rfl rfl) ?_
  rintro _ _ ⟨b4, rfl, rfl⟩
  refine O_qs (q_assign rfl) ?_
  refine O_nil ?_
  refine W_ret ?_
  refine res1 (c0 := [_]) rfl rfl (by repeat (first | exact Pick.nil | exact Take.here | apply Pick.cons | apply Take.there)) rfl ?_
  exact ⟨_, rfl, rfl⟩

theorem link_Is (B : World) (m : Bool) (s v : Int) : Ctr Tryz.prog 130 [.agg #[.bool m, .int .i64 s, .int .i64 v]] B [] (fun u c => u = .bool (lbool s v) ∧ c = []) := by
  refine Ctr.intro (n := 21) Tryz.func130 rfl Tryz.ntmps130 (Nat.le_of_ble_eq_true rfl) ?_
  refine W_seq ?_
  refine W_reg rfl ?_
  refine O_es (e_box (cs := #[_, _, _]) rfl rfl) ?_
  rintro _ _ ⟨b1, rfl, rfl⟩
  refine O_qs (q_assign rfl) ?_
  refine O_nil ?_
  refine W_seq ?_
  refine W_reg rfl ?_
  refine O_qs (q_fa fa_193_1 rfl) ?_
  refine O_qs (q_load Tryz.isAgg3 rfl (rd_chunk (by repeat (first | exact List.Mem.head _ | apply List.Mem.tail)) rfl)) ?_
  refine O_qs (q_geq rfl rfl) ?_
  refine O_qs (q_move rfl) ?_
  refine O_qs (QY.cond0 rfl rfl rfl (fun H => q_fa fa_193_1 rfl)) ?_
  refine O_qs (QY.cond0 rfl rfl rfl (fun H => q_load Tryz.isAgg3 (gvh rfl H) (rd_chunk (by repeat (first | exact List.Mem.head _ | apply List.Mem.tail)) rfl))) ?_
  refine O_qs (QY.cond0 rfl rfl rfl (fun H => q_leq (gvh rfl H) rfl)) ?_
  refine O_qs (q_and rfl rfl rfl) ?_
  refine O_qs (q_move rfl) ?_
  refine O_qs (QY.cond0 rfl rfl rfl (fun H => q_fa fa_193_2 rfl)) ?_
  refine O_qs (QY.cond0 rfl rfl rfl (fun H => q_load Tryz.isAgg3 (gvh rfl H) (rd_chunk (by repeat (first | exact List.Mem.head _ | apply List.Mem.tail)) rfl))) ?_
  refine O_qs (QY.cond0 rfl rfl rfl (fun H => q_geq (gvh rfl H) rfl)) ?_
  refine O_qs (q_and rfl rfl rfl) ?_
  refine O_qs (q_move rfl) ?_
  refine O_qs (QY.cond0 rfl rfl rfl (fun H => q_fa fa_193_2 rfl)) ?_
  refine O_qs (QY.cond0 rfl rfl rfl (fun H => q_load Tryz.isAgg3 (gvh rfl H) (rd_chunk (by repeat (first | exact List.Mem.head _ | apply List.Mem.tail)) rfl))) ?_
  refine O_qs (QY.cond0 rfl rfl rfl (fun H => q_leq (gvh rfl H) rfl)) ?_
  refine O_qs (q_and rfl rfl rfl) ?_
  refine O_qs (q_assign rfl) ?_
  refine O_nil ?_
  refine W_ret ?_
  refine res1 rfl rfl (by repeat (first | exact Pick.nil | exact Take.here | apply Pick.cons | apply Take.there)) rfl ?_
  exact ⟨rfl, rfl⟩

theorem and_u64 (u x : Int) (hu : 0 ≤ u) (hx : 0 ≤ x) (n : Nat) (h1 : u < 2 ^ n) (h2 : ∃ k : Nat, x = k * 2 ^ n) (hxs : x < 18446744073709551616) : IntKind.u64.wrap ((BitVec.ofInt IntKind.u64.bits u &&& BitVec.ofInt IntKind.u64.bits x).toNat : Nat) = 0 := by
  obtain ⟨u, rfl⟩ := Int.eq_ofNat_of_zero_le hu
  obtain ⟨k, hk⟩ := h2
  have hk' : x = ((k * 2 ^ n : Nat) : Int) := by rw [hk]; push_cast; rfl
  subst hk'
  show IntKind.u64.wrap ((BitVec.ofInt 64 (u : Int) &&& BitVec.ofInt 64 ((k * 2 ^ n : Nat) : Int)).toNat : Nat) = 0
  rw [wrap_toNat, bv_ofInt, bv_ofInt]
  have : (BitVec.ofNat 64 u &&& BitVec.ofNat 64 (k * 2 ^ n)) = 0#64 := by
    apply BitVec.eq_of_getLsbD_eq
    intro i hi
    simp only [BitVec.getLsbD_and, BitVec.getLsbD_ofNat, hi, decide_true, Bool.true_and, BitVec.getLsbD_zero]
    by_cases hin : i < n
    · have : (k * 2 ^ n).testBit i = false := by rw [Nat.testBit_mul_two_pow]; simp; omega
      rw [this]; simp
    · have : u.testBit i = false := Nat.testBit_lt_two_pow (Nat.lt_of_lt_of_le (by exact_mod_cast h1) (Nat.pow_le_pow_right (by omega) (by omega)))
      rw [this]; simp
  rw [this]; rfl

theorem field_Apart (B : World) (b : Nat) : Ctr Tryz.prog 144 [.slice (some ⟨b, 0, none⟩) 3 3] B [[(b, .cells fieldsC 217 (0, 0))]] (fun v c => v = .bool true ∧ c = [[(b, .cells fieldsC 217 (0, 0))]]) := by
  refine Ctr.intro (n := 33) Tryz.func144 rfl Tryz.ntmps144 (Nat.le_of_ble_eq_true rfl) ?_
  refine W_seq ?_
  refine W_reg rfl ?_
  refine O_qs (q_assign rfl) ?_
  refine O_nil ?_
  refine W_seq ?_
  refine W_reg rfl ?_
  refine O_qs (q_assign rfl) ?_
  refine O_nil ?_
  refine W_seq ?_
  refine W_seq ?_
  refine W_reg rfl ?_
  refine O_qs (q_move rfl) ?_
  refine O_qs (q_len Tryz.runUnderlying202 rfl) ?_
  refine O_qs (q_move rfl) ?_
  refine O_nil ?_
  refine W_block ?_
  refine W_unroll ?_
  refine W_seq ?_
  refine W_reg rfl ?_
  refine O_qs (q_lss rfl rfl) ?_
  refine O_nil ?_
  refine W_seq ?_
  refine W_true rfl ?_
  refine W_skip ?_
  refine W_seq ?_
  refine W_block ?_
  refine W_seq ?_
  refine W_reg rfl ?_
  refine O_qs (q_ia Tryz.runUnderlying202 Tryz.sizeOf217 rfl rfl (by decide)) ?_
  refine O_qs (q_loadN (vs := [_, _]) Tryz.isAgg217 Tryz.sizeOf217 rfl (rd_range (by repeat (first | exact List.Mem.head _ | apply List.Mem.tail)) rfl)) ?_
  refine O_es (e_alloc (cs := #[.int .i64 0, .int .i64 0]) Tryz.zeroValue217 rfl) ?_
  rintro _ _ ⟨b5, rfl, rfl⟩
  refine O_en (e_storeN (vs := [_, _]) Tryz.sizeOf217 rfl rfl rfl (by repeat (first | exact Upd.here | apply Upd.there)) rfl (by simp only [setAll, List.setIfInBounds_toArray, List.set_cons_succ, List.set_cons_zero, Nat.reduceAdd, Nat.zero_add] <;> rfl)) ?_
  rintro _ _ ⟨rfl, rfl⟩
  refine O_nil ?_
  refine W_seq ?_
  refine W_draw [[], [0], [], [2], [2, 3], [2, 3, 4], [0, 1, 2, 3, 4, 5], [0, 1, 2, 3, 4, 5, 6]] rfl rfl rfl ?_
  refine V.qs 0 rfl rfl (q_loadN (vs := [_, _]) Tryz.isAgg217 Tryz.sizeOf217 rfl (rd_range (by repeat (first | exact List.Mem.head _ | apply List.Mem.tail)) rfl)) ?_
  refine V.qs 2 rfl rfl (q_fa fa_217_0 rfl) ?_
  refine V.qs 3 rfl rfl (q_load Tryz.isAgg3 rfl (rd_chunk (by repeat (first | exact List.Mem.head _ | apply List.Mem.tail)) rfl)) ?_
  refine V.qs 4 rfl rfl (q_andI rfl rfl rfl) ?_
  refine V.qs 5 rfl rfl (q_conv Tryz.runUnderlying3 Tryz.runUnderlying30 rfl rfl) ?_
  refine V.qs 1 rfl rfl (q_cf Tryz.call152 rfl (fun wd hwd => field_Max _ 0 40 (by simp [IsF])) (by repeat (first | exact Pick.nil | exact Take.here | apply Pick.cons | apply Take.there))) ?_
  refine V.qs 6 rfl rfl (q_shl (by decide) rfl rfl rfl) ?_
  refine V.qs 7 rfl rfl (q_assign rfl) ?_
  refine V.fin rfl ?_
  refine W_seq ?_
  refine W_seq ?_
  refine W_reg rfl ?_
  refine O_qs (q_loadN (vs := [_, _]) Tryz.isAgg217 Tryz.sizeOf217 rfl (rd_range (by repeat (first | exact List.Mem.head _ | apply List.Mem.tail)) rfl)) ?_
  refine O_qs (q_cf Tryz.call153 rfl (fun wd hwd => field_Is _ 0 40 (by simp [IsF])) (by repeat (first | exact Pick.nil | exact Take.here | apply Pick.cons | apply Take.there))) ?_
  refine O_qs (q_not rfl) ?_
  refine O_qs (q_move rfl) ?_
  refine O_qs (QY.cond0 rfl rfl rfl (fun H => q_move rfl)) ?_
  refine O_qs (QY.cond0 rfl rfl rfl (fun H => q_move rfl)) ?_
  refine O_qs (QY.cond0 rfl rfl rfl (fun H => q_andI (c := 0) (by decide) rfl rfl)) ?_
  refine O_qs (QY.cond0 rfl rfl rfl (fun H => q_neq (gvh rfl H) rfl)) ?_
  refine O_qs (q_or rfl rfl rfl) ?_
  refine O_nil ?_
  refine W_false rfl ?_
  refine W_skip ?_
  refine W_reg rfl ?_
  refine O_qs (q_move rfl) ?_
  refine O_qs (q_move rfl) ?_
  refine O_qs (q_orI rfl rfl rfl) ?_
  refine O_qs (q_assign rfl) ?_
  refine O_nil ?_
  refine W_reg rfl ?_
  refine O_qs (q_add (w64 (by omega)) rfl rfl) ?_
  refine O_qs (q_move rfl) ?_
  refine O_nil ?_
  refine L_unroll ?_
  refine W_seq ?_
  refine W_reg rfl ?_
  refine O_qs (q_lss rfl rfl) ?_
  refine O_nil ?_
  refine W_seq ?_
  refine W_true rfl ?_
  refine W_skip ?_
  refine W_seq ?_
  refine W_block ?_
  refine W_seq ?_
  refine W_reg rfl ?_
  refine O_qs (q_ia Tryz.runUnderlying202 Tryz.sizeOf217 rfl rfl (by decide)) ?_
  refine O_qs (q_loadN (vs := [_, _]) Tryz.isAgg217 Tryz.sizeOf217 rfl (rd_range (by repeat (first | exact List.Mem.head _ | apply List.Mem.tail)) rfl)) ?_
  refine O_es (e_alloc (cs := #[.int .i64 0, .int .i64 0]) Tryz.zeroValue217 rfl) ?_
  rintro _ _ ⟨b5, rfl, rfl⟩
  refine O_en (e_storeN (vs := [_, _]) Tryz.sizeOf217 rfl rfl rfl (by repeat (first | exact Upd.here | apply Upd.there)) rfl (by simp only [setAll, List.setIfInBounds_toArray, List.set_cons_succ, List.set_cons_zero, Nat.reduceAdd, Nat.zero_add] <;> rfl)) ?_
  rintro _ _ ⟨rfl, rfl⟩
  refine O_nil ?_
  refine W_seq ?_
  refine W_draw [[], [0], [], [2], [2, 3], [2, 3, 4], [0, 1, 2, 3, 4, 5], [0, 1, 2, 3, 4, 5, 6]] rfl rfl rfl ?_
  refine V.qs 0 rfl rfl (q_loadN (vs := [_, _]) Tryz.isAgg217 Tryz.sizeOf217 rfl (rd_range (by repeat (first | exact List.Mem.head _ | apply List.Mem.tail)) rfl)) ?_
  refine V.qs 2 rfl rfl (q_fa fa_217_0 rfl) ?_
  refine V.qs 3 rfl rfl (q_load Tryz.isAgg3 rfl (rd_chunk (by repeat (first | exact List.Mem.head _ | apply List.Mem.tail)) rfl)) ?_
  refine V.qs 4 rfl rfl (q_andI rfl rfl rfl) ?_
  refine V.qs 5 rfl rfl (q_conv Tryz.runUnderlying3 Tryz.runUnderlying30 rfl rfl) ?_
  refine V.qs 1 rfl rfl (q_cf Tryz.call152 rfl (fun wd hwd => field_Max _ 40 23 (by simp [IsF])) (by repeat (first | exact Pick.nil | exact Take.here | apply Pick.cons | apply Take.there))) ?_
  refine V.qs 6 rfl rfl (q_shl (by decide) rfl rfl rfl) ?_
  refine V.qs 7 rfl rfl (q_assign rfl) ?_
  refine V.fin rfl ?_
  refine W_seq ?_
  refine W_seq ?_
  refine W_reg rfl ?_
  refine O_qs (q_loadN (vs := [_, _]) Tryz.isAgg217 Tryz.sizeOf217 rfl (rd_range (by repeat (first | exact List.Mem.head _ | apply List.Mem.tail)) rfl)) ?_
  refine O_qs (q_cf Tryz.call153 rfl (fun wd hwd => field_Is _ 40 23 (by simp [IsF])) (by repeat (first | exact Pick.nil | exact Take.here | apply Pick.cons | apply Take.there))) ?_
  refine O_qs (q_not rfl) ?_
  refine O_qs (q_move rfl) ?_
  refine O_qs (QY.cond0 rfl rfl rfl (fun H => q_move rfl)) ?_
  refine O_qs (QY.cond0 rfl rfl rfl (fun H => q_move rfl)) ?_
  refine O_qs (QY.cond0 rfl rfl rfl (fun H => q_andI (c := 0) (by decide) rfl rfl)) ?_
  refine O_qs (QY.cond0 rfl rfl rfl (fun H => q_neq (gvh rfl H) rfl)) ?_
  refine O_qs (q_or rfl rfl rfl) ?_
  refine O_nil ?_
  refine W_false rfl ?_
  refine W_skip ?_
  refine W_reg rfl ?_
  refine O_qs (q_move rfl) ?_
  refine O_qs (q_move rfl) ?_
  refine O_qs (q_orI rfl rfl rfl) ?_
  refine O_qs (q_assign rfl) ?_
  refine O_nil ?_
  refine W_reg rfl ?_
  refine O_qs (q_add (w64 (by omega)) rfl rfl) ?_
  refine O_qs (q_move rfl) ?_
  refine O_nil ?_
  refine L_unroll ?_
  refine W_seq ?_
  refine W_reg rfl ?_
  refine O_qs (q_lss rfl rfl) ?_
  refine O_nil ?_
  refine W_seq ?_
  refine W_true rfl ?_
  refine W_skip ?_
  refine W_seq ?_
  refine W_block ?_
  refine W_seq ?_
  refine W_reg rfl ?_
  refine O_qs (q_ia Tryz.runUnderlying202 Tryz.sizeOf217 rfl rfl (by decide)) ?_
  refine O_qs (q_loadN (vs := [_, _]) Tryz.isAgg217 Tryz.sizeOf217 rfl (rd_range (by repeat (first | exact List.Mem.head _ | apply List.Mem.tail)) rfl)) ?_
  refine O_es (e_alloc (cs := #[.int .i64 0, .int .i64 0]) Tryz.zeroValue217 rfl) ?_
  rintro _ _ ⟨b5, rfl, rfl⟩
  refine O_en (e_storeN (vs := [_, _]) Tryz.sizeOf217 rfl rfl rfl (by repeat (first | exact Upd.here | apply Upd.there)) rfl (by simp only [setAll, List.setIfInBounds_toArray, List.set_cons_succ, List.set_cons_zero, Nat.reduceAdd, Nat.zero_add] <;> rfl)) ?_
  rintro _ _ ⟨rfl, rfl⟩
  refine O_nil ?_
  refine W_seq ?_
  refine W_draw [[], [0], [], [2], [2, 3], [2, 3, 4], [0, 1, 2, 3, 4, 5], [0, 1, 2, 3, 4, 5, 6]] rfl rfl rfl ?_
  refine V.qs 0 rfl rfl (q_loadN (vs := [_, _]) Tryz.isAgg217 Tryz.sizeOf217 rfl (rd_range (by repeat (first | exact List.Mem.head _ | apply List.Mem.tail)) rfl)) ?_
  refine V.qs 2 rfl rfl (q_fa fa_217_0 rfl) ?_
  refine V.qs 3 rfl rfl (q_load Tryz.isAgg3 rfl (rd_chunk (by repeat (first | exact List.Mem.head _ | apply List.Mem.tail)) rfl)) ?_
  refine V.qs 4 rfl rfl (q_andI rfl rfl rfl) ?_
  refine V.qs 5 rfl rfl (q_conv Tryz.runUnderlying3 Tryz.runUnderlying30 rfl rfl) ?_
  refine V.qs 1 rfl rfl (q_cf Tryz.call152 rfl (fun wd hwd => field_Max _ 63 1 (by simp [IsF])) (by repeat (first | exact Pick.nil | exact Take.here | apply Pick.cons | apply Take.there))) ?_
  refine V.qs 6 rfl rfl (q_shl (by decide) rfl rfl rfl) ?_
  refine V.qs 7 rfl rfl (q_assign rfl) ?_
  refine V.fin rfl ?_
  refine W_seq ?_
  refine W_seq ?_
  refine W_reg rfl ?_
  refine O_qs (q_loadN (vs := [_, _]) Tryz.isAgg217 Tryz.sizeOf217 rfl (rd_range (by repeat (first | exact List.Mem.head _ | apply List.Mem.tail)) rfl)) ?_
  refine O_qs (q_cf Tryz.call153 rfl (fun wd hwd => field_Is _ 63 1 (by simp [IsF])) (by repeat (first | exact Pick.nil | exact Take.here | apply Pick.cons | apply Take.there))) ?_
  refine O_qs (q_not rfl) ?_
  refine O_qs (q_move rfl) ?_
  refine O_qs (QY.cond0 rfl rfl rfl (fun H => q_move rfl)) ?_
  refine O_qs (QY.cond0 rfl rfl rfl (fun H => q_move rfl)) ?_
  refine O_qs (QY.cond0 rfl rfl rfl (fun H => q_andI (c := 0) (by decide) rfl rfl)) ?_
  refine O_qs (QY.cond0 rfl rfl rfl (fun H => q_neq (gvh rfl H) rfl)) ?_
  refine O_qs (q_or rfl rfl rfl) ?_
  refine O_nil ?_
  refine W_false rfl ?_
  refine W_skip ?_
  refine W_reg rfl ?_
  refine O_qs (q_move rfl) ?_
  refine O_qs (q_move rfl) ?_
  refine O_qs (q_orI rfl rfl rfl) ?_
  refine O_qs (q_assign rfl) ?_
  refine O_nil ?_
  refine W_reg rfl ?_
  refine O_qs (q_add (w64 (by omega)) rfl rfl) ?_
  refine O_qs (q_move rfl) ?_
  refine O_nil ?_
  refine L_unroll ?_
  refine W_seq ?_
  refine W_reg rfl ?_
  refine O_qs (q_lss rfl rfl) ?_
  refine O_nil ?_
  refine W_seq ?_
  refine W_false rfl ?_
  refine W_exit ?_
  refine W_seq ?_
  refine W_reg rfl ?_
  refine O_qs (q_assign rfl) ?_
  refine O_nil ?_
  refine W_ret ?_
  refine res1 (c0 := [[(b, _)]]) rfl rfl (by repeat (first | exact Pick.nil | exact Take.here | apply Pick.cons | apply Take.there)) rfl ?_
  exact ⟨rfl, rfl⟩

@[reducible] def numsC (a b c : Int) : Array Value := #[.int .u64 a, .int .u64 b, .int .u64 c]

theorem field_Pack (B : World) (b b2 : Nat) (v s m : Int) (hv : 0 ≤ v ∧ v ≤ 1099511627775) (hs : 0 ≤ s ∧ s ≤ 8388607) (hm : 0 ≤ m ∧ m ≤ 1) :
    Ctr Tryz.prog 131 [.slice (some ⟨b, 0, none⟩) 3 3, .slice (some ⟨b2, 0, none⟩) 3 3] B [[(b, .cells fieldsC 217 (0, 0))], [(b2, .cells (numsC v s m) 23 (0, 0))]]
      (fun u c => u = .tuple #[.int .u64 (v + s * 1099511627776 + m * 9223372036854775808), .bool true] ∧ c = []) := by
  refine Ctr.intro (n := 41) Tryz.func131 rfl Tryz.ntmps131 (Nat.le_of_ble_eq_true rfl) ?_
  refine W_seq ?_
  refine W_reg rfl ?_
  refine O_qs (q_assign rfl) ?_
  refine O_qs (q_assign rfl) ?_
  refine O_nil ?_
  refine W_seq ?_
  refine W_seq ?_
  refine W_reg rfl ?_
  refine O_qs (q_move rfl) ?_
  refine O_qs (q_cf Tryz.call144 rfl (fun wd hwd => field_Apart _ b) (by repeat (first | exact Pick.nil | exact Take.here | apply Pick.cons | apply Take.there))) ?_
  refine O_qs (q_not rfl) ?_
  refine O_qs (q_move rfl) ?_
  refine O_qs (QY.cond0 rfl rfl rfl (fun H => q_move rfl)) ?_
  refine O_qs (QY.cond0 rfl rfl rfl (fun H => q_len Tryz.runUnderlying202 (gvh rfl H))) ?_
  refine O_qs (QY.cond0 rfl rfl rfl (fun H => q_move rfl)) ?_
  refine O_qs (QY.cond0 rfl rfl rfl (fun H => q_len Tryz.runUnderlying204 (gvh rfl H))) ?_
  refine O_qs (QY.cond0 rfl rfl rfl (fun H => q_neq (gvh rfl H) (gvh rfl H))) ?_
  refine O_qs (q_or rfl rfl rfl) ?_
  refine O_nil ?_
  refine W_false rfl ?_
  refine W_skip ?_
  refine W_seq ?_
  refine W_reg rfl ?_
  refine O_qs (q_assign rfl) ?_
  refine O_nil ?_
  refine W_seq ?_
  refine W_seq ?_
  refine W_reg rfl ?_
  refine O_qs (q_move rfl) ?_
  refine O_qs (q_len Tryz.runUnderlying202 rfl) ?_
  refine O_qs (q_move rfl) ?_
  refine O_nil ?_
  refine W_block ?_
  refine W_unroll ?_
  refine W_seq ?_
  refine W_reg rfl ?_
  refine O_qs (q_lss rfl rfl) ?_
  refine O_nil ?_
  refine W_seq ?_
  refine W_true rfl ?_
  refine W_skip ?_
  refine W_seq ?_
  refine W_block ?_
  refine W_seq ?_
  refine W_reg rfl ?_
  refine O_qs (q_move rfl) ?_
  refine O_qs (q_ia Tryz.runUnderlying202 Tryz.sizeOf217 rfl rfl (by decide)) ?_
  refine O_qs (q_loadN (vs := [_, _]) Tryz.isAgg217 Tryz.sizeOf217 rfl (rd_range (by repeat (first | exact List.Mem.head _ | apply List.Mem.tail)) rfl)) ?_
  refine O_es (e_alloc (cs := #[.int .i64 0, .int .i64 0]) Tryz.zeroValue217 rfl) ?_
  rintro _ _ ⟨b8, rfl, rfl⟩
  refine O_qs (q_assign rfl) ?_
  refine O_en (e_storeN (vs := [_, _]) Tryz.sizeOf217 rfl rfl rfl (by repeat (first | exact Upd.here | apply Upd.there)) rfl (by simp only [setAll, List.setIfInBounds_toArray, List.set_cons_succ, List.set_cons_zero, Nat.reduceAdd, Nat.zero_add] <;> rfl)) ?_
  rintro _ _ ⟨rfl, rfl⟩
  refine O_nil ?_
  refine W_seq ?_
  refine W_reg rfl ?_
  refine O_qs (q_assign rfl) ?_
  refine O_nil ?_
  refine W_seq ?_
  refine W_draw [[], [], [], [], [2, 3], [2, 3, 4], [0, 1, 2, 3, 4, 5], [0, 1, 2, 3, 4, 5, 6], [0, 1, 2, 3, 4, 5, 6, 7], [0, 1, 2, 3, 4, 5, 6, 7], [0, 1, 2, 3, 4, 5, 6, 7, 8], [0, 1, 2, 3, 4, 5, 6, 7, 8, 9, 10]] rfl rfl rfl ?_
  refine V.qs 0 rfl rfl (q_loadN (vs := [_, _]) Tryz.isAgg217 Tryz.sizeOf217 rfl (rd_range (by repeat (first | exact List.Mem.head _ | apply List.Mem.tail)) rfl)) ?_
  refine V.qs 1 rfl rfl (q_move rfl) ?_
  refine V.qs 2 rfl rfl (q_move rfl) ?_
  refine V.qs 3 rfl rfl (q_move rfl) ?_
  refine V.qs 4 rfl rfl (q_ia Tryz.runUnderlying204 Tryz.sizeOf23 rfl rfl (by decide)) ?_
  refine V.qs 5 rfl rfl (q_load Tryz.isAgg23 rfl (rd_chunk (by repeat (first | exact List.Mem.head _ | apply List.Mem.tail)) rfl)) ?_
  refine V.qs 6 rfl rfl (q_cf Tryz.call145 rfl (fun wd hwd => field_Put _ 0 40 0 v (by simp [IsF]) (by simp) (by simp [fmax]; omega)) (by repeat (first | exact Pick.nil | exact Take.here | apply Pick.cons | apply Take.there))) ?_
  refine V.qs 7 rfl rfl (q_move rfl) ?_
  refine V.qs 8 rfl rfl (q_extract rfl rfl) ?_
  refine V.qs 9 rfl rfl (q_extract rfl rfl) ?_
  refine V.e1s 10 [9] rfl rfl rfl (EY.of_q (q_assign rfl)) ?_
  rintro _ _ ⟨rfl, rfl⟩
  refine ⟨st rfl rfl (q_extract rfl rfl) (st_nil), ?_⟩
  refine V.qs 11 rfl rfl (q_assign rfl) ?_
  refine V.fin rfl ?_
  refine W_seq ?_
  refine W_reg rfl ?_
  refine O_qs (q_move rfl) ?_
  refine O_qs (q_not rfl) ?_
  refine O_nil ?_
  refine W_false rfl ?_
  refine W_skip ?_
  refine W_reg rfl ?_
  refine O_qs (q_add (w64 (by omega)) rfl rfl) ?_
  refine O_qs (q_move rfl) ?_
  refine O_nil ?_
  refine L_unroll ?_
  refine W_seq ?_
  refine W_reg rfl ?_
  refine O_qs (q_lss rfl rfl) ?_
  refine O_nil ?_
  refine W_seq ?_
  refine W_true rfl ?_
  refine W_skip ?_
  refine W_seq ?_
  refine W_block ?_
  refine W_seq ?_
  refine W_reg rfl ?_
  refine O_qs (q_move rfl) ?_
  refine O_qs (q_ia Tryz.runUnderlying202 Tryz.sizeOf217 rfl rfl (by decide)) ?_
  refine O_qs (q_loadN (vs := [_, _]) Tryz.isAgg217 Tryz.sizeOf217 rfl (rd_range (by repeat (first | exact List.Mem.head _ | apply List.Mem.tail)) rfl)) ?_
  refine O_es (e_alloc (cs := #[.int .i64 0, .int .i64 0]) Tryz.zeroValue217 rfl) ?_
  rintro _ _ ⟨b8, rfl, rfl⟩
  refine O_qs (q_assign rfl) ?_
  refine O_en (e_storeN (vs := [_, _]) Tryz.sizeOf217 rfl rfl rfl (by repeat (first | exact Upd.here | apply Upd.there)) rfl (by simp only [setAll, List.setIfInBounds_toArray, List.set_cons_succ, List.set_cons_zero, Nat.reduceAdd, Nat.zero_add] <;> rfl)) ?_
  rintro _ _ ⟨rfl, rfl⟩
  refine O_nil ?_
  refine W_seq ?_
  refine W_reg rfl ?_
  refine O_qs (q_assign rfl) ?_
  refine O_nil ?_
  refine W_seq ?_
  refine W_draw [[], [], [], [], [2, 3], [2, 3, 4], [0, 1, 2, 3, 4, 5], [0, 1, 2, 3, 4, 5, 6], [0, 1, 2, 3, 4, 5, 6, 7], [0, 1, 2, 3, 4, 5, 6, 7], [0, 1, 2, 3, 4, 5, 6, 7, 8], [0, 1, 2, 3, 4, 5, 6, 7, 8, 9, 10]] rfl rfl rfl ?_
  refine V.qs 0 rfl rfl (q_loadN (vs := [_, _]) Tryz.isAgg217 Tryz.sizeOf217 rfl (rd_range (by repeat (first | exact List.Mem.head _ | apply List.Mem.tail)) rfl)) ?_
  refine V.qs 1 rfl rfl (q_move rfl) ?_
  refine V.qs 2 rfl rfl (q_move rfl) ?_
  refine V.qs 3 rfl rfl (q_move rfl) ?_
  refine V.qs 4 rfl rfl (q_ia Tryz.runUnderlying204 Tryz.sizeOf23 rfl rfl (by decide)) ?_
  refine V.qs 5 rfl rfl (q_load Tryz.isAgg23 rfl (rd_chunk (by repeat (first | exact List.Mem.head _ | apply List.Mem.tail)) rfl)) ?_
  refine V.qs 6 rfl rfl (q_cf Tryz.call145 rfl (fun wd hwd => field_Put _ 40 23 (0 + v * 2 ^ (0 : Int).toNat) s (by simp [IsF]) (by simp; omega) (by simp [fmax]; omega)) (by repeat (first | exact Pick.nil | exact Take.here | apply Pick.cons | apply Take.there))) ?_
  refine V.qs 7 rfl rfl (q_move rfl) ?_
  refine V.qs 8 rfl rfl (q_extract rfl rfl) ?_
  refine V.qs 9 rfl rfl (q_extract rfl rfl) ?_
  refine V.e1s 10 [9] rfl rfl rfl (EY.of_q (q_assign rfl)) ?_
  rintro _ _ ⟨rfl, rfl⟩
  refine ⟨st rfl rfl (q_extract rfl rfl) (st_nil), ?_⟩
  refine V.qs 11 rfl rfl (q_assign rfl) ?_
  refine V.fin rfl ?_
  refine W_seq ?_
  refine W_reg rfl ?_
  refine O_qs (q_move rfl) ?_
  refine O_qs (q_not rfl) ?_
  refine O_nil ?_
  refine W_false rfl ?_
  refine W_skip ?_
  refine W_reg rfl ?_
  refine O_qs (q_add (w64 (by omega)) rfl rfl) ?_
  refine O_qs (q_move rfl) ?_
  refine O_nil ?_
  refine L_unroll ?_
  refine W_seq ?_
  refine W_reg rfl ?_
  refine O_qs (q_lss rfl rfl) ?_
  refine O_nil ?_
  refine W_seq ?_
  refine W_true rfl ?_
  refine W_skip ?_
  refine W_seq ?_
  refine W_block ?_
  refine W_seq ?_
  refine W_reg rfl ?_
  refine O_qs (q_move rfl) ?_
  refine O_qs (q_ia Tryz.runUnderlying202 Tryz.sizeOf217 rfl rfl (by decide)) ?_
  refine O_qs (q_loadN (vs := [_, _]) Tryz.isAgg217 Tryz.sizeOf217 rfl (rd_range (by repeat (first | exact List.Mem.head _ | apply List.Mem.tail)) rfl)) ?_
  refine O_es (e_alloc (cs := #[.int .i64 0, .int .i64 0]) Tryz.zeroValue217 rfl) ?_
  rintro _ _ ⟨b8, rfl, rfl⟩
  refine O_qs (q_assign rfl) ?_
  refine O_en (e_storeN (vs := [_, _]) Tryz.sizeOf217 rfl rfl rfl (by repeat (first | exact Upd.here | apply Upd.there)) rfl (by simp only [setAll, List.setIfInBounds_toArray, List.set_cons_succ, List.set_cons_zero, Nat.reduceAdd, Nat.zero_add] <;> rfl)) ?_
  rintro _ _ ⟨rfl, rfl⟩
  refine O_nil ?_
  refine W_seq ?_
  refine W_reg rfl ?_
  refine O_qs (q_assign rfl) ?_
  refine O_nil ?_
  refine W_seq ?_
  refine W_draw [[], [], [], [], [2, 3], [2, 3, 4], [0, 1, 2, 3, 4, 5], [0, 1, 2, 3, 4, 5, 6], [0, 1, 2, 3, 4, 5, 6, 7], [0, 1, 2, 3, 4, 5, 6, 7], [0, 1, 2, 3, 4, 5, 6, 7, 8], [0, 1, 2, 3, 4, 5, 6, 7, 8, 9, 10]] rfl rfl rfl ?_
  refine V.qs 0 rfl rfl (q_loadN (vs := [_, _]) Tryz.isAgg217 Tryz.sizeOf217 rfl (rd_range (by repeat (first | exact List.Mem.head _ | apply List.Mem.tail)) rfl)) ?_
  refine V.qs 1 rfl rfl (q_move rfl) ?_
  refine V.qs 2 rfl rfl (q_move rfl) ?_
  refine V.qs 3 rfl rfl (q_move rfl) ?_
  refine V.qs 4 rfl rfl (q_ia Tryz.runUnderlying204 Tryz.sizeOf23 rfl rfl (by decide)) ?_
  refine V.qs 5 rfl rfl (q_load Tryz.isAgg23 rfl (rd_chunk (by repeat (first | exact List.Mem.head _ | apply List.Mem.tail)) rfl)) ?_
  refine V.qs 6 rfl rfl (q_cf Tryz.call145 rfl (fun wd hwd => field_Put _ 63 1 (0 + v * 2 ^ (0 : Int).toNat + s * 2 ^ (40 : Int).toNat) m (by simp [IsF]) (by simp; omega) (by simp [fmax]; omega)) (by repeat (first | exact Pick.nil | exact Take.here | apply Pick.cons | apply Take.there))) ?_
  refine V.qs 7 rfl rfl (q_move rfl) ?_
  refine V.qs 8 rfl rfl (q_extract rfl rfl) ?_
  refine V.qs 9 rfl rfl (q_extract rfl rfl) ?_
  refine V.e1s 10 [9] rfl rfl rfl (EY.of_q (q_assign rfl)) ?_
  rintro _ _ ⟨rfl, rfl⟩
  refine ⟨st rfl rfl (q_extract rfl rfl) (st_nil), ?_⟩
  refine V.qs 11 rfl rfl (q_assign rfl) ?_
  refine V.fin rfl ?_
  refine W_seq ?_
  refine W_reg rfl ?_
  refine O_qs (q_move rfl) ?_
  refine O_qs (q_not rfl) ?_
  refine O_nil ?_
  refine W_false rfl ?_
  refine W_skip ?_
  refine W_reg rfl ?_
  refine O_qs (q_add (w64 (by omega)) rfl rfl) ?_
  refine O_qs (q_move rfl) ?_
  refine O_nil ?_
  refine L_unroll ?_
  refine W_seq ?_
  refine W_reg rfl ?_
  refine O_qs (q_lss rfl rfl) ?_
  refine O_nil ?_
  refine W_seq ?_
  refine W_false rfl ?_
  refine W_exit ?_
  refine W_seq ?_
  refine W_reg rfl ?_
  refine O_qs (q_move rfl) ?_
  refine O_qs (q_assign rfl) ?_
  refine O_qs (q_assign rfl) ?_
  refine O_nil ?_
  refine W_ret ?_
  refine res2 (c0 := []) rfl rfl rfl (by repeat (first | exact Pick.nil | exact Take.here | apply Pick.cons | apply Take.there)) rfl ?_
  refine ⟨?_, rfl⟩
  simp

theorem link_Word (B : World) (mk : Bool) (s v : Int) : Ctr Tryz.prog 123 [.agg #[.bool mk, .int .i64 s, .int .i64 v]] B [] (fun u c => u = .int .u64 (lword mk s v) ∧ c = []) := by
  by_cases h : lbool s v = true
  · have hb : (0 ≤ s ∧ s ≤ 8388607) ∧ 0 ≤ v ∧ v ≤ 1099511627775 := by simp [lbool] at h; omega
    have hw : ∀ m : Int, lword mk s v = v + s * 1099511627776 + (if mk then 9223372036854775808 else 0) := by intro m; unfold lword; rw [if_pos (by omega)]
    cases mk
    · refine Ctr.intro (n := 25) Tryz.func123 rfl Tryz.ntmps123 (Nat.le_of_ble_eq_true rfl) ?_
      refine W_seq ?_
      refine W_reg rfl ?_
      refine O_es (e_box (cs := #[_, _, _]) rfl rfl) ?_
      rintro _ _ ⟨b1, rfl, rfl⟩
      refine O_qs (q_assign rfl) ?_
      refine O_nil ?_
      refine W_seq ?_
      refine W_seq ?_
      refine W_reg rfl ?_
      refine O_qs (q_loadN (vs := [_, _, _]) Tryz.isAgg193 Tryz.sizeOf193 rfl (rd_range (by repeat (first | exact List.Mem.head _ | apply List.Mem.tail)) rfl)) ?_
      refine O_qs (q_cf Tryz.call130 rfl (fun wd hwd => link_Is _ false s v) (by repeat (first | exact Pick.nil | exact Take.here | apply Pick.cons | apply Take.there))) ?_
      refine O_qs (q_not rfl) ?_
      refine O_nil ?_
      refine W_fa rfl ((by simp [h])) ?_
      refine W_skip ?_
      refine W_seq ?_
      refine W_reg rfl ?_
      refine O_qs (q_assign rfl) ?_
      refine O_nil ?_
      refine W_seq ?_
      refine W_seq ?_
      refine W_reg rfl ?_
      refine O_qs (q_fa fa_193_0 rfl) ?_
      refine O_qs (q_load Tryz.isAgg4 rfl (rd_chunk (by repeat (first | exact List.Mem.head _ | apply List.Mem.tail)) rfl)) ?_
      refine O_nil ?_
      refine W_false rfl ?_
      refine W_skip ?_
      refine W_seq ?_
      refine W_draw [[], [], [1], [1, 2], [], [4], [4, 5], [], [1, 2, 3, 4, 5, 6, 7], [0, 1, 2, 3, 4, 5, 6, 7, 8], [0, 1, 2, 3, 4, 5, 6, 7, 8, 9], [0, 1, 2, 3, 4, 5, 6, 7, 8, 9, 10], [0, 1, 2, 3, 4, 5, 6, 7, 8, 9, 10], [0, 1, 2, 3, 4, 5, 6, 7, 8, 9, 10, 11], [0, 1, 2, 3, 4, 5, 6, 7, 8, 9, 10, 11, 12, 13]] rfl rfl rfl ?_
      refine V.qs 1 rfl rfl (q_fa fa_193_2 rfl) ?_
      refine V.qs 2 rfl rfl (q_load Tryz.isAgg3 rfl (rd_chunk (by repeat (first | exact List.Mem.head _ | apply List.Mem.tail)) rfl)) ?_
      refine V.qs 3 rfl rfl (q_conv Tryz.runUnderlying3 Tryz.runUnderlying23 (wu64 (by omega)) rfl) ?_
      refine V.qs 4 rfl rfl (q_fa fa_193_1 rfl) ?_
      refine V.qs 5 rfl rfl (q_load Tryz.isAgg3 rfl (rd_chunk (by repeat (first | exact List.Mem.head _ | apply List.Mem.tail)) rfl)) ?_
      refine V.qs 6 rfl rfl (q_conv Tryz.runUnderlying3 Tryz.runUnderlying23 (wu64 (by omega)) rfl) ?_
      refine V.qs 7 rfl rfl (q_move rfl) ?_
      refine V.e2 0 8 [7, 6, 5, 4, 3, 2, 1] [] rfl rfl rfl rfl rfl rfl (e_cf Tryz.call132 rfl (fun wd hwd => link_fields _) (by repeat (first | exact Pick.nil | exact Take.here | apply Pick.cons | apply Take.there))) (e_bslice (zl := [.int .u64 0, .int .u64 0, .int .u64 0]) (cs := [_, _, _]) Tryz.runUnderlying204 Tryz.sizeOf23 Tryz.zeroValue23 rfl (by kernel_rfl) rfl rfl) ?_ ?_
      · rintro _ _ ⟨_, ⟨b1, rfl, rfl⟩, rfl⟩
        refine ⟨st rfl rfl (q_move rfl) (st rfl rfl (q_conv Tryz.runUnderlying3 Tryz.runUnderlying23 (wu64 (by omega)) rfl) (st rfl rfl (q_load Tryz.isAgg3 rfl (rd_chunk (by repeat (first | exact List.Mem.head _ | apply List.Mem.tail)) rfl)) (st rfl rfl (q_fa fa_193_1 rfl) (st rfl rfl (q_conv Tryz.runUnderlying3 Tryz.runUnderlying23 (wu64 (by omega)) rfl) (st rfl rfl (q_load Tryz.isAgg3 rfl (rd_chunk (by repeat (first | exact List.Mem.head _ | apply List.Mem.tail)) rfl)) (st rfl rfl (q_fa fa_193_2 rfl) (st_nil))))))), ?_⟩
        refine V.e1s 8 [] rfl rfl rfl (e_bslice (zl := [.int .u64 0, .int .u64 0, .int .u64 0]) (cs := [_, _, _]) Tryz.runUnderlying204 Tryz.sizeOf23 Tryz.zeroValue23 rfl (by kernel_rfl) rfl rfl) ?_
        rintro _ _ ⟨b20, rfl, rfl⟩
        refine ⟨st_nil, ?_⟩
        refine V.e1s 9 [] rfl rfl rfl (e_cf Tryz.call131 rfl (fun wd hwd => field_Pack _ b1 b20 v s 0 (by omega) (by omega) (by omega)) (by repeat (first | exact Pick.nil | exact Take.here | apply Pick.cons | apply Take.there))) ?_
        rintro _ _ ⟨_, ⟨rfl, rfl⟩, rfl⟩
        refine ⟨st_nil, ?_⟩
        refine V.qs 10 rfl rfl (q_move rfl) ?_
        refine V.qs 11 rfl rfl (q_extract rfl rfl) ?_
        refine V.qs 12 rfl rfl (q_extract rfl rfl) ?_
        refine V.qs 13 rfl rfl (q_assign rfl) ?_
        refine V.qs 14 rfl rfl (q_assign rfl) ?_
        refine V.fin rfl ?_
        refine W_seq ?_
        refine W_reg rfl ?_
        refine O_qs (q_move rfl) ?_
        refine O_qs (q_assign rfl) ?_
        refine O_nil ?_
        refine W_ret ?_
        refine res1 (c0 := []) rfl rfl (by repeat (first | exact Pick.nil | exact Take.here | apply Pick.cons | apply Take.there)) rfl ?_
        refine ⟨?_, rfl⟩
        rw [hw 0]; simp
      · rintro _ _ ⟨b20, rfl, rfl⟩
        refine ⟨st_nil, ?_⟩
        refine V.e1s 0 [7, 6, 5, 4, 3, 2, 1] rfl rfl rfl (e_cf Tryz.call132 rfl (fun wd hwd => link_fields _) (by repeat (first | exact Pick.nil | exact Take.here | apply Pick.cons | apply Take.there))) ?_
        rintro _ _ ⟨_, ⟨b1, rfl, rfl⟩, rfl⟩
        refine ⟨st rfl rfl (q_move rfl) (st rfl rfl (q_conv Tryz.runUnderlying3 Tryz.runUnderlying23 (wu64 (by omega)) rfl) (st rfl rfl (q_load Tryz.isAgg3 rfl (rd_chunk (by repeat (first | exact List.Mem.head _ | apply List.Mem.tail)) rfl)) (st rfl rfl (q_fa fa_193_1 rfl) (st rfl rfl (q_conv Tryz.runUnderlying3 Tryz.runUnderlying23 (wu64 (by omega)) rfl) (st rfl rfl (q_load Tryz.isAgg3 rfl (rd_chunk (by repeat (first | exact List.Mem.head _ | apply List.Mem.tail)) rfl)) (st rfl rfl (q_fa fa_193_2 rfl) (st_nil))))))), ?_⟩
        refine V.e1s 9 [] rfl rfl rfl (e_cf Tryz.call131 rfl (fun wd hwd => field_Pack _ b1 b20 v s 0 (by omega) (by omega) (by omega)) (by repeat (first | exact Pick.nil | exact Take.here | apply Pick.cons | apply Take.there))) ?_
        rintro _ _ ⟨_, ⟨rfl, rfl⟩, rfl⟩
        refine ⟨st_nil, ?_⟩
        refine V.qs 10 rfl rfl (q_move rfl) ?_
        refine V.qs 11 rfl rfl (q_extract rfl rfl) ?_
        refine V.qs 12 rfl rfl (q_extract rfl rfl) ?_
        refine V.qs 13 rfl rfl (q_assign rfl) ?_
        refine V.qs 14 rfl rfl (q_assign rfl) ?_
        refine V.fin rfl ?_
        refine W_seq ?_
        refine W_reg rfl ?_
        refine O_qs (q_move rfl) ?_
        refine O_qs (q_assign rfl) ?_
        refine O_nil ?_
        refine W_ret ?_
        refine res1 (c0 := []) rfl rfl (by repeat (first | exact Pick.nil | exact Take.here | apply Pick.cons | apply Take.there)) rfl ?_
        refine ⟨?_, rfl⟩
        rw [hw 0]; simp
    · refine Ctr.intro (n := 25) Tryz.func123 rfl Tryz.ntmps123 (Nat.le_of_ble_eq_true rfl) ?_
      refine W_seq ?_
      refine W_reg rfl ?_
      refine O_es (e_box (cs := #[_, _, _]) rfl rfl) ?_
      rintro _ _ ⟨b1, rfl, rfl⟩
      refine O_qs (q_assign rfl) ?_
      refine O_nil ?_
      refine W_seq ?_
      refine W_seq ?_
      refine W_reg rfl ?_
      refine O_qs (q_loadN (vs := [_, _, _]) Tryz.isAgg193 Tryz.sizeOf193 rfl (rd_range (by repeat (first | exact List.Mem.head _ | apply List.Mem.tail)) rfl)) ?_
      refine O_qs (q_cf Tryz.call130 rfl (fun wd hwd => link_Is _ true s v) (by repeat (first | exact Pick.nil | exact Take.here | apply Pick.cons | apply Take.there))) ?_
      refine O_qs (q_not rfl) ?_
      refine O_nil ?_
      refine W_fa rfl ((by simp [h])) ?_
      refine W_skip ?_
      refine W_seq ?_
      refine W_reg rfl ?_
      refine O_qs (q_assign rfl) ?_
      refine O_nil ?_
      refine W_seq ?_
      refine W_seq ?_
      refine W_reg rfl ?_
      refine O_qs (q_fa fa_193_0 rfl) ?_
      refine O_qs (q_load Tryz.isAgg4 rfl (rd_chunk (by repeat (first | exact List.Mem.head _ | apply List.Mem.tail)) rfl)) ?_
      refine O_nil ?_
      refine W_true rfl ?_
      refine W_reg rfl ?_
      refine O_qs (q_assign rfl) ?_
      refine O_nil ?_
      refine W_seq ?_
      refine W_draw [[], [], [1], [1, 2], [], [4], [4, 5], [], [1, 2, 3, 4, 5, 6, 7], [0, 1, 2, 3, 4, 5, 6, 7, 8], [0, 1, 2, 3, 4, 5, 6, 7, 8, 9], [0, 1, 2, 3, 4, 5, 6, 7, 8, 9, 10], [0, 1, 2, 3, 4, 5, 6, 7, 8, 9, 10], [0, 1, 2, 3, 4, 5, 6, 7, 8, 9, 10, 11], [0, 1, 2, 3, 4, 5, 6, 7, 8, 9, 10, 11, 12, 13]] rfl rfl rfl ?_
      refine V.qs 1 rfl rfl (q_fa fa_193_2 rfl) ?_
      refine V.qs 2 rfl rfl (q_load Tryz.isAgg3 rfl (rd_chunk (by repeat (first | exact List.Mem.head _ | apply List.Mem.tail)) rfl)) ?_
      refine V.qs 3 rfl rfl (q_conv Tryz.runUnderlying3 Tryz.runUnderlying23 (wu64 (by omega)) rfl) ?_
      refine V.qs 4 rfl rfl (q_fa fa_193_1 rfl) ?_
      refine V.qs 5 rfl rfl (q_load Tryz.isAgg3 rfl (rd_chunk (by repeat (first | exact List.Mem.head _ | apply List.Mem.tail)) rfl)) ?_
      refine V.qs 6 rfl rfl (q_conv Tryz.runUnderlying3 Tryz.runUnderlying23 (wu64 (by omega)) rfl) ?_
      refine V.qs 7 rfl rfl (q_move rfl) ?_
      refine V.e2 0 8 [7, 6, 5, 4, 3, 2, 1] [] rfl rfl rfl rfl rfl rfl (e_cf Tryz.call132 rfl (fun wd hwd => link_fields _) (by repeat (first | exact Pick.nil | exact Take.here | apply Pick.cons | apply Take.there))) (e_bslice (zl := [.int .u64 0, .int .u64 0, .int .u64 0]) (cs := [_, _, _]) Tryz.runUnderlying204 Tryz.sizeOf23 Tryz.zeroValue23 rfl (by kernel_rfl) rfl rfl) ?_ ?_
      · rintro _ _ ⟨_, ⟨b1, rfl, rfl⟩, rfl⟩
        refine ⟨st rfl rfl (q_move rfl) (st rfl rfl (q_conv Tryz.runUnderlying3 Tryz.runUnderlying23 (wu64 (by omega)) rfl) (st rfl rfl (q_load Tryz.isAgg3 rfl (rd_chunk (by repeat (first | exact List.Mem.head _ | apply List.Mem.tail)) rfl)) (st rfl rfl (q_fa fa_193_1 rfl) (st rfl rfl (q_conv Tryz.runUnderlying3 Tryz.runUnderlying23 (wu64 (by omega)) rfl) (st rfl rfl (q_load Tryz.isAgg3 rfl (rd_chunk (by repeat (first | exact List.Mem.head _ | apply List.Mem.tail)) rfl)) (st rfl rfl (q_fa fa_193_2 rfl) (st_nil))))))), ?_⟩
        refine V.e1s 8 [] rfl rfl rfl (e_bslice (zl := [.int .u64 0, .int .u64 0, .int .u64 0]) (cs := [_, _, _]) Tryz.runUnderlying204 Tryz.sizeOf23 Tryz.zeroValue23 rfl (by kernel_rfl) rfl rfl) ?_
        rintro _ _ ⟨b20, rfl, rfl⟩
        refine ⟨st_nil, ?_⟩
        refine V.e1s 9 [] rfl rfl rfl (e_cf Tryz.call131 rfl (fun wd hwd => field_Pack _ b1 b20 v s 1 (by omega) (by omega) (by omega)) (by repeat (first | exact Pick.nil | exact Take.here | apply Pick.cons | apply Take.there))) ?_
        rintro _ _ ⟨_, ⟨rfl, rfl⟩, rfl⟩
        refine ⟨st_nil, ?_⟩
        refine V.qs 10 rfl rfl (q_move rfl) ?_
        refine V.qs 11 rfl rfl (q_extract rfl rfl) ?_
        refine V.qs 12 rfl rfl (q_extract rfl rfl) ?_
        refine V.qs 13 rfl rfl (q_assign rfl) ?_
        refine V.qs 14 rfl rfl (q_assign rfl) ?_
        refine V.fin rfl ?_
        refine W_seq ?_
        refine W_reg rfl ?_
        refine O_qs (q_move rfl) ?_
        refine O_qs (q_assign rfl) ?_
        refine O_nil ?_
        refine W_ret ?_
        refine res1 (c0 := []) rfl rfl (by repeat (first | exact Pick.nil | exact Take.here | apply Pick.cons | apply Take.there)) rfl ?_
        refine ⟨?_, rfl⟩
        rw [hw 0]; simp
      · rintro _ _ ⟨b20, rfl, rfl⟩
        refine ⟨st_nil, ?_⟩
        refine V.e1s 0 [7, 6, 5, 4, 3, 2, 1] rfl rfl rfl (e_cf Tryz.call132 rfl (fun wd hwd => link_fields _) (by repeat (first | exact Pick.nil | exact Take.here | apply Pick.cons | apply Take.there))) ?_
        rintro _ _ ⟨_, ⟨b1, rfl, rfl⟩, rfl⟩
        refine ⟨st rfl rfl (q_move rfl) (st rfl rfl (q_conv Tryz.runUnderlying3 Tryz.runUnderlying23 (wu64 (by omega)) rfl) (st rfl rfl (q_load Tryz.isAgg3 rfl (rd_chunk (by repeat (first | exact List.Mem.head _ | apply List.Mem.tail)) rfl)) (st rfl rfl (q_fa fa_193_1 rfl) (st rfl rfl (q_conv Tryz.runUnderlying3 Tryz.runUnderlying23 (wu64 (by omega)) rfl) (st rfl rfl (q_load Tryz.isAgg3 rfl (rd_chunk (by repeat (first | exact List.Mem.head _ | apply List.Mem.tail)) rfl)) (st rfl rfl (q_fa fa_193_2 rfl) (st_nil))))))), ?_⟩
        refine V.e1s 9 [] rfl rfl rfl (e_cf Tryz.call131 rfl (fun wd hwd => field_Pack _ b1 b20 v s 1 (by omega) (by omega) (by omega)) (by repeat (first | exact Pick.nil | exact Take.here | apply Pick.cons | apply Take.there))) ?_
        rintro _ _ ⟨_, ⟨rfl, rfl⟩, rfl⟩
        refine ⟨st_nil, ?_⟩
        refine V.qs 10 rfl rfl (q_move rfl) ?_
        refine V.qs 11 rfl rfl (q_extract rfl rfl) ?_
        refine V.qs 12 rfl rfl (q_extract rfl rfl) ?_
        refine V.qs 13 rfl rfl (q_assign rfl) ?_
        refine V.qs 14 rfl rfl (q_assign rfl) ?_
        refine V.fin rfl ?_
        refine W_seq ?_
        refine W_reg rfl ?_
        refine O_qs (q_move rfl) ?_
        refine O_qs (q_assign rfl) ?_
        refine O_nil ?_
        refine W_ret ?_
        refine res1 (c0 := []) rfl rfl (by repeat (first | exact Pick.nil | exact Take.here | apply Pick.cons | apply Take.there)) rfl ?_
        refine ⟨?_, rfl⟩
        rw [hw 0]; simp
  · have h' : lbool s v = false := by simpa using h
    refine Ctr.intro (n := 25) Tryz.func123 rfl Tryz.ntmps123 (Nat.le_of_ble_eq_true rfl) ?_
    refine W_seq ?_
    refine W_reg rfl ?_
    refine O_es (e_box (cs := #[_, _, _]) rfl rfl) ?_
    rintro _ _ ⟨b1, rfl, rfl⟩
    refine O_qs (q_assign rfl) ?_
    refine O_nil ?_
    refine W_seq ?_
    refine W_seq ?_
    refine W_reg rfl ?_
    refine O_qs (q_loadN (vs := [_, _, _]) Tryz.isAgg193 Tryz.sizeOf193 rfl (rd_range (by repeat (first | exact List.Mem.head _ | apply List.Mem.tail)) rfl)) ?_
    refine O_qs (q_cf Tryz.call130 rfl (fun wd hwd => link_Is _ mk s v) (by repeat (first | exact Pick.nil | exact Take.here | apply Pick.cons | apply Take.there))) ?_
    refine O_qs (q_not rfl) ?_
    refine O_nil ?_
    refine W_tr rfl ((by simp [h'])) ?_
    refine W_seq ?_
    refine W_reg rfl ?_
    refine O_qs (q_assign rfl) ?_
    refine O_nil ?_
    refine W_ret ?_
    refine res1 (c0 := []) rfl rfl (by repeat (first | exact Pick.nil | exact Take.here | apply Pick.cons | apply Take.there)) rfl ?_
    refine ⟨?_, rfl⟩
    unfold lword
    rw [if_neg]
    simp [lbool] at h'
    omega

theorem link_To (B : World) (s v : Int) : Ctr Tryz.prog 114 [.int .i64 s, .int .i64 v] B [] (fun u c => u = .int .u64 (lword false s v) ∧ c = []) := by
  refine Ctr.intro (n := 9) Tryz.func114 rfl Tryz.ntmps114 (Nat.le_of_ble_eq_true rfl) ?_
  refine W_seq ?_
  refine W_reg rfl ?_
  refine O_qs (q_assign rfl) ?_
  refine O_nil ?_
  refine W_seq ?_
  refine W_reg rfl ?_
  refine O_qs (q_move rfl) ?_
  refine O_qs (q_move rfl) ?_
  refine O_qs (q_build rfl (bld_193 (cs := [_, _, _]) rfl)) ?_
  refine O_qs (q_cf Tryz.call123 rfl (fun wd hwd => link_Word _ false s v) (by repeat (first | exact Pick.nil | exact Take.here | apply Pick.cons | apply Take.there))) ?_
  refine O_qs (q_assign rfl) ?_
  refine O_nil ?_
  refine W_ret ?_
  refine res1 (c0 := []) rfl rfl (by repeat (first | exact Pick.nil | exact Take.here | apply Pick.cons | apply Take.there)) rfl ?_
  exact ⟨rfl, rfl⟩

def marked (w : Int) : Bool := decide (9223372036854775808 ≤ w)

theorem link_IsMarked (B : World) (w : Int) (h : 0 ≤ w ∧ w < 18446744073709551616) : Ctr Tryz.prog 99 [.int .u64 w] B [] (fun u c => u = .bool (marked w) ∧ c = []) := by
  refine Ctr.intro (n := 6) Tryz.func99 rfl Tryz.ntmps99 (Nat.le_of_ble_eq_true rfl) ?_
  refine W_seq ?_
  refine W_reg rfl ?_
  refine O_qs (q_assign rfl) ?_
  refine O_nil ?_
  refine W_seq ?_
  refine W_reg rfl ?_
  refine O_qs (q_move rfl) ?_
  refine O_qs (q_shr (by decide) rfl rfl rfl) ?_
  refine O_qs (q_eql rfl rfl) ?_
  refine O_qs (q_assign rfl) ?_
  refine O_nil ?_
  refine W_ret ?_
  refine res1 (c0 := []) rfl rfl (by repeat (first | exact Pick.nil | exact Take.here | apply Pick.cons | apply Take.there)) rfl ?_
  refine ⟨?_, rfl⟩
  have : w.fdiv (2 ^ min (63 : Int).toNat IntKind.u64.bits) = w / 9223372036854775808 := Int.fdiv_eq_ediv_of_nonneg _ (by decide)
  rw [this]
  unfold marked
  congr 1
  simp
  omega

end Go.Proofs.YtbfplncdmbjjhaaGreat
