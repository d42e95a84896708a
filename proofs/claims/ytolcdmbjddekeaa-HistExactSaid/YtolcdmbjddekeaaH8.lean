/-
  The law: calls out of events are the document's.
-/
import Derived.Test.YtolcdmbjddekeaaH7
set_option linter.unusedSimpArgs false
set_option linter.unusedVariables false
namespace Go.Proofs.Ytolcdmbjddekeaa
open Go Go.SL

theorem ap_V {B : World} {own : List Nat} {n : Nat} {all : Array Oper} {env : Env} {ctx : Ctx} {dst : Option Tmp} {ty : TypeId} {pos : String} {aft : Array Edge} {x y : Operand} {A : Atom} {v u : Value} {L N : List HEv} {c' : Atom → Ctx}
    (hA : Row layV2 34 A v L) (hm : ∀ A', Upd ctx A A' (c' A')) (hx : evalO env x = some v) (hy : evalO env y = some u) (hs : Src ⟨Try.prog, B, own, n⟩ ctx u N.length (layV2.all N)) (hl : L.length + N.length ≤ 1000000000) :
    EY ⟨Try.prog, B, own, n⟩ all ⟨dst, .call ⟨.builtin .append, #[x, y], #[24, 24]⟩, ty, pos, aft, none⟩ env ctx (fun v' c => ∃ A', Row layV2 34 A' v' (L ++ N) ∧ c = c' A') :=
  e_append (Y := layV2) (i := Try.t34) (bytes := 88) Try.underlying24 (by kernel_rfl) rfl rfl rfl rfl hA hm hx hy hs (by omega) (by simp only [maxLen]; omega)

theorem law24_form (B : World) (c : HCall) : Ctr Try.prog 9 [c.v] B [] (fun u k => u = c.v ∧ k = []) := by
  refine Ctr.intro (n := 16) Try.func9 rfl Try.ntmps9 (Nat.le_of_ble_eq_true rfl) ?_
  refine W_seq ?_
  refine W_reg rfl ?_
  refine O_es (e_box (cs := #[_, _, _, _, _, _, _, _, _, _, _]) rfl rfl) ?_
  rintro _ _ ⟨b1, rfl, rfl⟩
  refine O_es (e_alloc (cs := #[.int .i64 0, .int .i64 0, .int .i64 0, .int .u64 0, .int .u64 0, .int .i64 0, .int .i64 0, .int .i64 0, .int .i64 0, .bool false, .int .u64 0]) Try.zeroValue42 rfl) ?_
  rintro _ _ ⟨b2, rfl, rfl⟩
  refine O_nil ?_
  refine W_seq ?_
  refine W_reg rfl ?_
  refine O_qs (q_fa fa_44_0 rfl) ?_
  refine O_qs (q_load Try.isAgg3 rfl (rd_chunk (by repeat (first | exact List.Mem.head _ | apply List.Mem.tail)) rfl)) ?_
  refine O_qs (q_fa fa_44_1 rfl) ?_
  refine O_qs (q_load Try.isAgg3 rfl (rd_chunk (by repeat (first | exact List.Mem.head _ | apply List.Mem.tail)) rfl)) ?_
  refine O_qs (q_fa fa_44_2 rfl) ?_
  refine O_qs (q_loadN (vs := [_, _, _, _]) Try.isAgg27 Try.sizeOf27 rfl (rd_range (by repeat (first | exact List.Mem.head _ | apply List.Mem.tail)) rfl)) ?_
  refine O_qs (q_fa fa_44_3 rfl) ?_
  refine O_qs (q_load Try.isAgg3 rfl (rd_chunk (by repeat (first | exact List.Mem.head _ | apply List.Mem.tail)) rfl)) ?_
  refine O_qs (q_fa fa_44_4 rfl) ?_
  refine O_qs (q_load Try.isAgg3 rfl (rd_chunk (by repeat (first | exact List.Mem.head _ | apply List.Mem.tail)) rfl)) ?_
  refine O_qs (q_fa fa_44_5 rfl) ?_
  refine O_qs (q_loadN (vs := [_, _, _]) Try.isAgg30 Try.sizeOf30 rfl (rd_range (by repeat (first | exact List.Mem.head _ | apply List.Mem.tail)) rfl)) ?_
  refine O_qs (q_build rfl (bld_42 (cs := [_, _, _, _, _, _, _, _, _, _, _]) rfl)) ?_
  refine O_en (e_storeN (vs := [_, _, _, _, _, _, _, _, _, _, _]) Try.sizeOf42 rfl rfl rfl (by repeat (first | exact Upd.here | apply Upd.there)) rfl (by simp only [setAll, List.setIfInBounds_toArray, List.set_cons_succ, List.set_cons_zero, Nat.reduceAdd, Nat.zero_add] <;> rfl)) ?_
  rintro _ _ ⟨rfl, rfl⟩
  refine O_nil ?_
  refine W_ret ?_
  refine resL (c0 := []) rfl (.cell (us := [_, _, _, _, _, _, _, _, _, _, _]) Try.isAgg42 Try.sizeOf42 rfl (rd_range (by repeat (first | exact List.Mem.head _ | apply List.Mem.tail)) rfl) .nil) (by repeat (first | exact Pick.nil | exact Take.here | apply Pick.cons | apply Take.there)) rfl ?_
  exact ⟨rfl, rfl⟩

theorem law24_HistExact (B : World) (sa : Option Addr) (cap : Nat) (L : List HEv) (hb : BaseRow layV B sa L) (hL : L.length ≤ 9223372036854775807) :
    Ctr Try.prog 3 [.slice sa L.length cap] B [] (fun u k => u = .bool true ∧ k = []) := by
  refine Ctr.intro (n := 89) Try.func3 rfl Try.ntmps3 (Nat.le_of_ble_eq_true rfl) ?_
  refine W_seq ?_
  refine W_reg rfl ?_
  refine O_qs (q_assign rfl) ?_
  refine O_nil ?_
  refine W_seq ?_
  refine W_seq ?_
  refine W_reg rfl ?_
  refine O_qs (q_cf Try.call6 rfl (fun wd hwd => (law24_awake _)) (by repeat (first | exact Pick.nil | exact Take.here | apply Pick.cons | apply Take.there))) ?_
  refine O_qs (q_not rfl) ?_
  refine O_nil ?_
  refine W_false rfl ?_
  refine W_skip ?_
  refine W_seq ?_
  refine W_seq ?_
  refine W_reg rfl ?_
  refine O_qs (q_move rfl) ?_
  refine O_qs (q_len Try.runUnderlying22 rfl) ?_
  refine O_qs (q_gtr rfl rfl) ?_
  refine O_nil ?_
  refine W_cond rfl ?_ ?_
  · intro hc
    refine W_seq ?_
    refine W_reg rfl ?_
    refine O_qs (q_assign rfl) ?_
    refine O_nil ?_
    refine W_ret ?_
    refine res1 (c0 := []) rfl rfl (by repeat (first | exact Pick.nil | exact Take.here | apply Pick.cons | apply Take.there)) rfl ?_
    exact ⟨rfl, rfl⟩
  · intro hc
    have h200 : L.length ≤ 200 := by simp at hc; omega
    refine W_skip ?_
    refine W_seq ?_
    refine W_reg rfl ?_
    refine O_es (e_bslice (zl := []) (cs := []) Try.runUnderlying24 Try.sizeOf34 Try.zeroValue34 rfl (by kernel_rfl) rfl rfl) ?_
    rintro _ _ ⟨b16, rfl, rfl⟩
    refine O_qs (q_assign rfl) ?_
    refine O_nil ?_
    refine W_seq ?_
    refine W_seq ?_
    refine W_reg rfl ?_
    refine O_qs (q_assign rfl) ?_
    refine O_nil ?_
    refine W_block ?_
    refine W_loopD (fun (d : Nat × Option Addr × Nat × Atom) => [(4, .int .i64 (d.1 : Int)), (3, .slice d.2.1 d.1 d.2.2.1), (0, .slice sa L.length cap)]) (fun d => [d.2.2.2]) (fun d => L.length - d.1) (fun (i, a2, c2, R) => i ≤ L.length ∧ Row layV2 34 R (.slice a2 i c2) (L.take i)) (0, some ⟨b16, 0, none⟩, 0, [(b16, .cells #[] 34 (0, 0))]) ?_ (by repeat (first | exact Sub.nil | refine Sub.cons rfl ?_)) (by repeat (first | exact Pick.nil | exact Take.here | apply Pick.cons | apply Take.there)) ?_
    · exact ⟨Nat.zero_le _, .inr ⟨b16, 0, #[], rfl, rfl, Nat.le_refl _, by decide, by simp, by simp [Lay.all]⟩⟩
    · rintro ⟨i, a2, c2, R⟩ ⟨hi, hR⟩
      dsimp only at hi hR ⊢
      refine W_seq ?_
      refine W_seq ?_
      refine W_reg rfl ?_
      refine O_qs (q_move rfl) ?_
      refine O_qs (q_move rfl) ?_
      refine O_qs (q_len Try.runUnderlying22 rfl) ?_
      refine O_qs (q_lss rfl rfl) ?_
      refine O_nil ?_
      refine W_cond rfl ?_ ?_
      · intro hcnd
        have hlt : i < L.length := by simpa using hcnd
        have hV : L[i]? = some L[i] := List.getElem?_eq_getElem hlt
        obtain ⟨b0, o0, rfl⟩ := hb.ptr hlt
        have htk : L.take (i + 1) = L.take i ++ [L[i]] := by rw [List.take_add_one, hV]; rfl
        have htl : (L.take i).length = i := by rw [List.length_take]; omega
        generalize L[i] = e at hV htk
        refine W_skip ?_
        refine W_seq ?_
        refine W_block ?_
        refine W_seq ?_
        refine W_reg rfl ?_
        refine O_qs (q_move rfl) ?_
        refine O_qs (q_move rfl) ?_
        refine O_qs (q_ian Try.runUnderlying22 Try.sizeOf32 rfl rfl hlt) ?_
        refine O_qs (q_loadN (vs := HEv.l e) Try.isAgg32 Try.sizeOf32 rfl (hb.rds hV rfl)) ?_
        refine O_es (e_alloc (cs := #[.int .i64 0, .int .i64 0, .bool false, .int .i64 0, .int .u64 0, .int .u64 0, .int .i64 0, .int .i64 0, .bool false, .bool false, .int .i64 0, .bool false, .int .u64 0]) Try.zeroValue32 rfl) ?_
        rintro _ _ ⟨b5, rfl, rfl⟩
        refine O_en (e_storeN (vs := [_, _, _, _, _, _, _, _, _, _, _, _, _]) Try.sizeOf32 rfl rfl rfl (by repeat (first | exact Upd.here | apply Upd.there)) rfl (by simp only [setAll, List.setIfInBounds_toArray, List.set_cons_succ, List.set_cons_zero, Nat.reduceAdd, Nat.zero_add] <;> rfl)) ?_
        rintro _ _ ⟨rfl, rfl⟩
        refine O_nil ?_
        refine W_reg rfl ?_
        refine O_qs (q_move rfl) ?_
        refine O_qs (q_fa fa_32_1 rfl) ?_
        refine O_qs (q_load Try.isAgg3 rfl (rd_chunk (by repeat (first | exact List.Mem.head _ | apply List.Mem.tail)) rfl)) ?_
        refine O_qs (q_fa fa_32_2 rfl) ?_
        refine O_qs (q_load Try.isAgg4 rfl (rd_chunk (by repeat (first | exact List.Mem.head _ | apply List.Mem.tail)) rfl)) ?_
        refine O_qs (q_fa fa_32_3 rfl) ?_
        refine O_qs (q_loadN (vs := [_, _, _, _]) Try.isAgg27 Try.sizeOf27 rfl (rd_range (by repeat (first | exact List.Mem.head _ | apply List.Mem.tail)) rfl)) ?_
        refine O_qs (q_fa fa_32_4 rfl) ?_
        refine O_qs (q_load Try.isAgg3 rfl (rd_chunk (by repeat (first | exact List.Mem.head _ | apply List.Mem.tail)) rfl)) ?_
        refine O_qs (q_fa fa_32_5 rfl) ?_
        refine O_qs (q_load Try.isAgg4 rfl (rd_chunk (by repeat (first | exact List.Mem.head _ | apply List.Mem.tail)) rfl)) ?_
        refine O_qs (q_fa fa_32_6 rfl) ?_
        refine O_qs (q_load Try.isAgg4 rfl (rd_chunk (by repeat (first | exact List.Mem.head _ | apply List.Mem.tail)) rfl)) ?_
        refine O_qs (q_fa fa_32_7 rfl) ?_
        refine O_qs (q_loadN (vs := [_, _, _]) Try.isAgg30 Try.sizeOf30 rfl (rd_range (by repeat (first | exact List.Mem.head _ | apply List.Mem.tail)) rfl)) ?_
        refine O_qs (q_build rfl (bld_34 (cs := [_, _, _, _, _, _, _, _, _, _, _, _]) rfl)) ?_
        refine O_es (e_bslice (zl := [.int .i64 0, .bool false, .int .i64 0, .int .u64 0, .int .u64 0, .int .i64 0, .int .i64 0, .bool false, .bool false, .int .i64 0, .bool false, .int .u64 0]) (cs := [_, _, _, _, _, _, _, _, _, _, _, _]) Try.runUnderlying24 Try.sizeOf34 Try.zeroValue34 rfl (by kernel_rfl) rfl rfl) ?_
        rintro _ _ ⟨b43, rfl, rfl⟩
        refine O_es (ap_V (N := [e]) hR (fun _ => (by repeat (first | exact Upd.here | apply Upd.there))) rfl rfl (src_raw (cs := HEv.l2 e) (by repeat (first | exact List.Mem.head _ | apply List.Mem.tail))) (by simp; omega)) ?_
        rintro _ _ ⟨R2, hR2, rfl⟩
        obtain ⟨a3, c3, rfl⟩ := hR2.len
        rw [← htk] at hR2 ⊢
        have htl2 : (L.take (i + 1)).length = i + 1 := by rw [List.length_take]; omega
        rw [htl2] at hR2 ⊢
        refine O_qs (q_assign rfl) ?_
        refine O_nil ?_
        refine W_reg rfl ?_
        refine O_qs (q_move rfl) ?_
        refine O_qs (q_add (c := ((i + 1 : Nat) : Int)) (w64' (by omega) (by omega)) rfl rfl) ?_
        refine O_qs (q_assign rfl) ?_
        refine O_nil ?_
        refine ⟨(i + 1, a3, c3, R2), _, ?_, ?_, (by repeat (first | exact Sub.nil | refine Sub.cons rfl ?_)), (by repeat (first | exact Pick.nil | exact Take.here | apply Pick.cons | apply Take.there))⟩
        · exact ⟨hlt, hR2⟩
        · dsimp only; omega
      · intro hcnd
        have hil : i = L.length := by simp at hcnd; omega
        subst hil
        rw [List.take_length] at hR
        refine W_exit ?_
        refine W_seq ?_
        refine W_reg rfl ?_
        refine O_qs (q_move rfl) ?_
        refine O_es (e_cf Try.call7 rfl (fun wd hwd => (hist_Of _ sa L.length cap L rfl (hb.still hwd) (by omega))) (by repeat (first | exact Pick.nil | exact Take.here | apply Pick.cons | apply Take.there))) ?_
        rintro _ _ ⟨_, hof, rfl⟩
        rcases hof with ⟨h0, rfl, rfl⟩ | ⟨cs, v, R1, h0, hR1, hcl, rfl, rfl⟩
        · refine O_qs (q_move rfl) ?_
          refine O_qs (q_extract rfl rfl) ?_
          refine O_qs (q_extract rfl rfl) ?_
          refine O_qs (q_assign rfl) ?_
          refine O_qs (q_assign rfl) ?_
          refine O_nil ?_
          refine W_seq ?_
          refine W_reg rfl ?_
          refine O_qs (q_move rfl) ?_
          refine O_es (e_cf Try.call8 rfl (fun wd hwd => (ref24_Of _ R _ L hR (by omega))) (by repeat (first | exact Pick.nil | exact Take.here | apply Pick.cons | apply Take.there))) ?_
          rintro _ _ ⟨_, href, rfl⟩
          rcases href with ⟨_, rfl, rfl⟩ | ⟨cs, v, R2, h1, _⟩
          · refine O_qs (q_move rfl) ?_
            refine O_qs (q_extract rfl rfl) ?_
            refine O_qs (q_extract rfl rfl) ?_
            refine O_qs (q_assign rfl) ?_
            refine O_qs (q_assign rfl) ?_
            refine O_nil ?_
            refine W_seq ?_
            refine W_seq ?_
            refine W_reg rfl ?_
            refine O_qs (q_move rfl) ?_
            refine O_qs (q_not rfl) ?_
            refine O_nil ?_
            refine W_true rfl ?_
            refine W_seq ?_
            refine W_reg rfl ?_
            refine O_qs (q_move rfl) ?_
            refine O_qs (q_len Try.runUnderlying35 rfl) ?_
            refine O_qs (q_eql rfl rfl) ?_
            refine O_qs (q_move rfl) ?_
            refine O_qs (QY.cond0 rfl rfl rfl (fun H => q_move rfl)) ?_
            refine O_qs (QY.cond0 rfl rfl rfl (fun H => q_eql (gvh rfl H) rfl)) ?_
            refine O_qs (q_and rfl rfl rfl) ?_
            refine O_qs (q_assign rfl) ?_
            refine O_nil ?_
            refine W_ret ?_
            refine res1 (c0 := []) rfl rfl (by repeat (first | exact Pick.nil | exact Take.here | apply Pick.cons | apply Take.there)) rfl ?_
            exact ⟨rfl, rfl⟩
          · rw [h0] at h1; cases h1
        · have hlv : ∃ a cap, v = .slice a cs.length cap := hR1.len
          obtain ⟨a1, c1, rfl⟩ := hlv
          refine O_qs (q_move rfl) ?_
          refine O_qs (q_extract rfl rfl) ?_
          refine O_qs (q_extract rfl rfl) ?_
          refine O_qs (q_assign rfl) ?_
          refine O_qs (q_assign rfl) ?_
          refine O_nil ?_
          refine W_seq ?_
          refine W_reg rfl ?_
          refine O_qs (q_move rfl) ?_
          refine O_es (e_cf Try.call8 rfl (fun wd hwd => (ref24_Of _ R _ L hR (by omega))) (by repeat (first | exact Pick.nil | exact Take.here | apply Pick.cons | apply Take.there))) ?_
          rintro _ _ ⟨_, href, rfl⟩
          rcases href with ⟨h1, _⟩ | ⟨cs', v2, R2, h1, hR2, rfl, rfl⟩
          · rw [h0] at h1; cases h1
          · rw [h0] at h1
            obtain rfl := Option.some.inj h1
            have hlv2 : ∃ a cap, v2 = .slice a cs.length cap := hR2.len
            obtain ⟨a2', c2', rfl⟩ := hlv2
            refine O_qs (q_move rfl) ?_
            refine O_qs (q_extract rfl rfl) ?_
            refine O_qs (q_extract rfl rfl) ?_
            refine O_qs (q_assign rfl) ?_
            refine O_qs (q_assign rfl) ?_
            refine O_nil ?_
            refine W_seq ?_
            refine W_seq ?_
            refine W_reg rfl ?_
            refine O_qs (q_move rfl) ?_
            refine O_qs (q_not rfl) ?_
            refine O_nil ?_
            refine W_false rfl ?_
            refine W_skip ?_
            refine W_seq ?_
            refine W_seq ?_
            refine W_reg rfl ?_
            refine O_qs (q_move rfl) ?_
            refine O_qs (q_neq rfl rfl) ?_
            refine O_qs (q_move rfl) ?_
            refine O_qs (QY.guard rfl rfl rfl (q_move rfl)) ?_
            refine O_qs (QY.guard rfl rfl rfl (q_len Try.runUnderlying35 rfl)) ?_
            refine O_qs (QY.guard rfl rfl rfl (q_move rfl)) ?_
            refine O_qs (QY.guard rfl rfl rfl (q_len Try.runUnderlying38 rfl)) ?_
            refine O_qs (QY.guard rfl rfl rfl (q_neq rfl rfl)) ?_
            refine O_qs (q_pick_f rfl rfl) ?_
            refine O_nil ?_
            refine W_fa rfl ((by simp)) ?_
            refine W_skip ?_
            refine W_seq ?_
            refine W_seq ?_
            refine W_reg rfl ?_
            refine O_qs (q_assign rfl) ?_
            refine O_nil ?_
            refine W_block ?_
            refine W_loopD (fun (k : Nat) => [(10, .int .i64 (k : Int)), (8, .slice a2' cs.length c2'), (6, .slice a1 cs.length c1)]) (fun _ => [R1, R2]) (fun k => cs.length - k) (fun k => k ≤ cs.length) 0 ?_ (by repeat (first | exact Sub.nil | refine Sub.cons rfl ?_)) (by repeat (first | exact Pick.nil | exact Take.here | apply Pick.cons | apply Take.there)) ?_
            · exact Nat.zero_le _
            · intro k hk
              refine W_seq ?_
              refine W_seq ?_
              refine W_reg rfl ?_
              refine O_qs (q_move rfl) ?_
              refine O_qs (q_move rfl) ?_
              refine O_qs (q_len Try.runUnderlying35 rfl) ?_
              refine O_qs (q_lss rfl rfl) ?_
              refine O_nil ?_
              refine W_cond rfl ?_ ?_
              · intro hcz
                have hkl : k < cs.length := by simpa using hcz
                obtain ⟨g1, gc1, e1⟩ := hR1.ptr (by omega)
                obtain ⟨g2, gc2, e2⟩ := hR2.ptr (by omega)
                simp only [Value.slice.injEq, true_and] at e1 e2
                obtain ⟨rfl, rfl⟩ := e1
                obtain ⟨rfl, rfl⟩ := e2
                have hC : cs[k]? = some cs[k] := List.getElem?_eq_getElem hkl
                generalize cs[k] = c at hC
                refine W_skip ?_
                refine W_seq ?_
                refine W_block ?_
                refine W_seq ?_
                refine W_draw [[], [], [0, 1], [0, 1, 2], [0, 1, 2, 3], [], [], [5, 6], [5, 6, 7], [0, 1, 2, 3, 4, 5, 6, 7, 8]] rfl rfl rfl ?_
                refine V.qs 0 rfl rfl (q_move rfl) ?_
                refine V.qs 1 rfl rfl (q_move rfl) ?_
                refine V.qs 2 rfl rfl (q_ian Try.runUnderlying35 Try.sizeOf44 rfl rfl hkl) ?_
                refine V.qs 3 rfl rfl (q_loadN (vs := HCall.l c) Try.isAgg44 Try.sizeOf44 rfl (hR1.rds (by repeat (first | exact List.Mem.head _ | apply List.Mem.tail)) hC (by show 0 + k * 11 = _; simp [layH]))) ?_
                refine V.qs 5 rfl rfl (q_move rfl) ?_
                refine V.qs 6 rfl rfl (q_move rfl) ?_
                refine V.qs 7 rfl rfl (q_ian Try.runUnderlying38 Try.sizeOf42 rfl rfl hkl) ?_
                refine V.qs 8 rfl rfl (q_loadN (vs := HCall.l c) Try.isAgg42 Try.sizeOf42 rfl (hR2.rds (by repeat (first | exact List.Mem.head _ | apply List.Mem.tail)) hC (by show 0 + k * 11 = _; simp [layH]))) ?_
                refine V.qs 4 rfl rfl (q_cf Try.call9 rfl (fun wd hwd => (law24_form _ c)) (by repeat (first | exact Pick.nil | exact Take.here | apply Pick.cons | apply Take.there))) ?_
                refine V.qs 9 rfl rfl (q_bin neq_42 rfl rfl) ?_
                refine V.fin rfl ?_
                refine W_fa rfl ((by simp)) ?_
                refine W_skip ?_
                refine W_reg rfl ?_
                refine O_qs (q_move rfl) ?_
                refine O_qs (q_add (c := ((k + 1 : Nat) : Int)) (w64' (by omega) (by omega)) rfl rfl) ?_
                refine O_qs (q_assign rfl) ?_
                refine O_nil ?_
                refine ⟨(k + 1), _, ?_, ?_, (by repeat (first | exact Sub.nil | refine Sub.cons rfl ?_)), (by repeat (first | exact Pick.nil | exact Take.here | apply Pick.cons | apply Take.there))⟩
                · exact hkl
                · omega
              · intro hcz
                refine W_exit ?_
                refine W_seq ?_
                refine W_reg rfl ?_
                refine O_qs (q_assign rfl) ?_
                refine O_nil ?_
                refine W_ret ?_
                refine res1 (c0 := []) rfl rfl (by repeat (first | exact Pick.nil | exact Take.here | apply Pick.cons | apply Take.there)) rfl ?_
                exact ⟨rfl, rfl⟩
end Go.Proofs.Ytolcdmbjddekeaa
