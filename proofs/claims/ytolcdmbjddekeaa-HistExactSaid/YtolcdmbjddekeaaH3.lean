/-
  Walks: hist, calls picked.
-/
import Derived.Test.YtolcdmbjddekeaaH2
import Derived.KernelRfl
set_option linter.unusedSimpArgs false
set_option linter.unusedVariables false
namespace Go.Proofs.Ytolcdmbjddekeaa
open Go Go.SL

theorem ap_H {B : World} {own : List Nat} {n : Nat} {all : Array Oper} {env : Env} {ctx : Ctx} {dst : Option Tmp} {ty : TypeId} {pos : String} {aft : Array Edge} {x y : Operand} {A : Atom} {v u : Value} {L N : List HCall} {c' : Atom → Ctx}
    (hA : Row layH 44 A v L) (hm : ∀ A', Upd ctx A A' (c' A')) (hx : evalO env x = some v) (hy : evalO env y = some u) (hs : Src ⟨Try.prog, B, own, n⟩ ctx u N.length (layH.all N)) (hl : L.length + N.length ≤ 1099511627776) :
    EY ⟨Try.prog, B, own, n⟩ all ⟨dst, .call ⟨.builtin .append, #[x, y], #[35, 35]⟩, ty, pos, aft, none⟩ env ctx (fun v' c => ∃ A', Row layH 44 A' v' (L ++ N) ∧ c = c' A') :=
  e_append (Y := layH) (i := Try.t44) (bytes := 88) Try.underlying35 (by kernel_rfl) rfl rfl rfl rfl hA hm hx hy hs (by omega) (by simp only [maxLen]; omega)

theorem hist_pick (B : World) (sa : Option Addr) (n cap : Nat) (L : List HCall) (hn : L.length = n) (hb : BaseRow layH B sa L) (hlen : L.length ≤ 1000000) (f : FuncId) (capt : Array Value) (p : HCall → Bool)
    (hcall : ∀ args w, (callFunc f args).run Try.prog w = .ok (.enter f args) w) (hF : ∀ ctx w, Inv B (dom []) ctx w → ∀ c : HCall, Ctr Try.prog f (c.v :: capt.toList) w [] (fun u k => u = .bool (p c) ∧ k = [])) :
    Ctr Try.prog 25 [.slice sa n cap, .func (.func f) #[] capt] B [] (fun u k => ∃ A, Row layH 44 A u (L.filter p) ∧ k = [A]) := by
  subst hn
  refine Ctr.intro (n := 23) Try.func25 rfl Try.ntmps25 (Nat.le_of_ble_eq_true rfl) ?_
  refine W_seq ?_
  refine W_reg rfl ?_
  refine O_qs (q_assign rfl) ?_
  refine O_nil ?_
  refine W_seq ?_
  refine W_reg rfl ?_
  refine O_qs (q_assign rfl) ?_
  refine O_nil ?_
  refine W_seq ?_
  refine W_seq ?_
  refine W_reg rfl ?_
  refine O_qs (q_move rfl) ?_
  refine O_qs (q_len Try.runUnderlying35 rfl) ?_
  refine O_qs (q_move rfl) ?_
  refine O_nil ?_
  refine W_block ?_
  refine W_conv (ctx' := [[]]) rfl ?_
  refine W_loopD (fun (d : Nat × Value × Atom) => [(10, .int .i64 (d.1 : Int)), (9, .int .i64 (L.length : Int)), (8, .slice sa L.length cap), (5, d.2.1), (1, .func (.func f) #[] capt)]) (fun d => [d.2.2]) (fun d => L.length - d.1) (fun d => d.1 ≤ L.length ∧ Row layH 44 d.2.2 d.2.1 ((L.take d.1).filter p)) (0, .slice none 0 0, []) ?_ (by repeat (first | exact Sub.nil | refine Sub.cons rfl ?_)) (by repeat (first | exact Pick.nil | exact Take.here | apply Pick.cons | apply Take.there)) ?_
  · exact ⟨Nat.zero_le _, Row.nil ..⟩
  · rintro ⟨i, v, A⟩ ⟨hi, hA⟩
    dsimp only at hi hA ⊢
    refine W_seq ?_
    refine W_reg rfl ?_
    refine O_qs (q_lss rfl rfl) ?_
    refine O_nil ?_
    refine W_seq ?_
    refine W_cond rfl ?_ ?_
    · intro hcnd
      have hlt : i < L.length := by simpa using hcnd
      have hL : L[i]? = some L[i] := List.getElem?_eq_getElem hlt
      have hfl : ((L.take i).filter p).length ≤ 1000000 := Nat.le_trans (List.length_filter_le ..) (by simp; omega)
      obtain ⟨b0, o0, rfl⟩ := hb.ptr hlt
      refine W_skip ?_
      refine W_seq ?_
      refine W_block ?_
      refine W_seq ?_
      refine W_reg rfl ?_
      refine O_qs (q_ian Try.runUnderlying35 Try.sizeOf44 rfl rfl hlt) ?_
      refine O_qs (q_loadN (vs := HCall.l L[i]) Try.isAgg44 Try.sizeOf44 rfl (hb.rds hL rfl)) ?_
      refine O_es (e_alloc (cs := #[.int .i64 0, .int .i64 0, .int .i64 0, .int .u64 0, .int .u64 0, .int .i64 0, .int .i64 0, .int .i64 0, .int .i64 0, .bool false, .int .u64 0]) Try.zeroValue44 rfl) ?_
      rintro _ _ ⟨b7, rfl, rfl⟩
      refine O_en (e_storeN (vs := [_, _, _, _, _, _, _, _, _, _, _]) Try.sizeOf44 rfl rfl rfl (by repeat (first | exact Upd.here | apply Upd.there)) rfl (by simp only [setAll, List.setIfInBounds_toArray, List.set_cons_succ, List.set_cons_zero, Nat.reduceAdd, Nat.zero_add] <;> rfl)) ?_
      rintro _ _ ⟨rfl, rfl⟩
      refine O_nil ?_
      refine W_seq ?_
      refine W_reg rfl ?_
      refine O_qs (q_move rfl) ?_
      refine O_qs (q_loadN (vs := [_, _, _, _, _, _, _, _, _, _, _]) Try.isAgg44 Try.sizeOf44 rfl (rd_range (by repeat (first | exact List.Mem.head _ | apply List.Mem.tail)) rfl)) ?_
      refine O_qs (q_call (first := #[]) (cap := capt) (vs := [L[i].v]) hcall rfl rfl (show _ = L[i].v :: capt.toList from rfl) (fun wd hwd => hF _ wd hwd L[i]) .nil) ?_
      refine O_nil ?_
      refine W_cond rfl ?_ ?_
      · intro ha
        have hst : (L.take (i + 1)).filter p = (L.take i).filter p ++ [L[i]] := by
          rw [List.take_add_one, hL, List.filter_append]
          simp [ha]
        refine W_reg rfl ?_
        refine O_qs (q_move rfl) ?_
        refine O_qs (q_loadN (vs := [_, _, _, _, _, _, _, _, _, _, _]) Try.isAgg44 Try.sizeOf44 rfl (rd_range (by repeat (first | exact List.Mem.head _ | apply List.Mem.tail)) rfl)) ?_
        refine O_es (e_bslice (zl := [.int .i64 0, .int .i64 0, .int .i64 0, .int .u64 0, .int .u64 0, .int .i64 0, .int .i64 0, .int .i64 0, .int .i64 0, .bool false, .int .u64 0]) (cs := [_, _, _, _, _, _, _, _, _, _, _]) Try.runUnderlying35 Try.sizeOf44 Try.zeroValue44 rfl (by kernel_rfl) rfl rfl) ?_
        rintro _ _ ⟨b19, rfl, rfl⟩
        refine O_es (ap_H (N := [L[i]]) hA (fun _ => (by repeat (first | exact Upd.here | apply Upd.there))) rfl rfl (src_raw (cs := HCall.l L[i]) (by repeat (first | exact List.Mem.head _ | apply List.Mem.tail))) (by show ((L.take i).filter p).length + 1 ≤ _; omega)) ?_
        rintro _ _ ⟨A', hA', rfl⟩
        refine O_qs (q_assign rfl) ?_
        refine O_nil ?_
        refine W_reg rfl ?_
        refine O_qs (q_add (c := ((i + 1 : Nat) : Int)) (w64' (by omega) (by omega)) rfl rfl) ?_
        refine O_qs (q_move rfl) ?_
        refine O_nil ?_
        rw [← hst] at hA'
        refine ⟨(i + 1, _, A'), _, ?_, ?_, (by repeat (first | exact Sub.nil | refine Sub.cons rfl ?_)), (by repeat (first | exact Pick.nil | exact Take.here | apply Pick.cons | apply Take.there))⟩
        · exact ⟨hlt, hA'⟩
        · dsimp only
          omega
      · intro ha
        have hst : (L.take (i + 1)).filter p = (L.take i).filter p := by
          rw [List.take_add_one, hL, List.filter_append]
          simp [ha]
        refine W_skip ?_
        refine W_reg rfl ?_
        refine O_qs (q_add (c := ((i + 1 : Nat) : Int)) (w64' (by omega) (by omega)) rfl rfl) ?_
        refine O_qs (q_move rfl) ?_
        refine O_nil ?_
        rw [← hst] at hA
        refine ⟨(i + 1, v, A), _, ?_, ?_, (by repeat (first | exact Sub.nil | refine Sub.cons rfl ?_)), (by repeat (first | exact Pick.nil | exact Take.here | apply Pick.cons | apply Take.there))⟩
        · exact ⟨hlt, hA⟩
        · dsimp only
          omega
    · intro hcnd
      have hil : L.length ≤ i := by simpa using hcnd
      rw [List.take_of_length_le hil] at hA
      refine W_exit ?_
      refine W_seq ?_
      refine W_reg rfl ?_
      refine O_qs (q_move rfl) ?_
      refine O_qs (q_assign rfl) ?_
      refine O_nil ?_
      refine W_ret ?_
      refine res1 (c0 := [A]) rfl rfl (by repeat (first | exact Pick.nil | exact Take.here | apply Pick.cons | apply Take.there)) rfl ?_
      exact ⟨A, hA, rfl⟩

theorem hist_isOpen (B : World) (c : HCall) : Ctr Try.prog 27 [c.v] B [] (fun u k => u = .bool (decide (c.to_ = -1)) ∧ k = []) := by
  refine Ctr.intro (n := 6) Try.func27 rfl Try.ntmps27 (Nat.le_of_ble_eq_true rfl) ?_
  refine W_seq ?_
  refine W_reg rfl ?_
  refine O_es (e_box (cs := #[_, _, _, _, _, _, _, _, _, _, _]) rfl rfl) ?_
  rintro _ _ ⟨b1, rfl, rfl⟩
  refine O_qs (q_assign rfl) ?_
  refine O_nil ?_
  refine W_seq ?_
  refine W_reg rfl ?_
  refine O_qs (q_fa fa_44_4 rfl) ?_
  refine O_qs (q_load Try.isAgg3 rfl (rd_chunk (by repeat (first | exact List.Mem.head _ | apply List.Mem.tail)) rfl)) ?_
  refine O_qs (q_eql rfl rfl) ?_
  refine O_qs (q_assign rfl) ?_
  refine O_nil ?_
  refine W_ret ?_
  refine res1 (c0 := []) rfl rfl (by repeat (first | exact Pick.nil | exact Take.here | apply Pick.cons | apply Take.there)) rfl ?_
  exact ⟨rfl, rfl⟩

theorem hist_Open (B : World) (sa : Option Addr) (n cap : Nat) (L : List HCall) (hn : L.length = n) (hb : BaseRow layH B sa L) (hlen : L.length ≤ 1000000) :
    Ctr Try.prog 15 [.slice sa n cap] B [] (fun u k => ∃ A, Row layH 44 A u (L.filter fun c => decide (c.to_ = -1)) ∧ k = [A]) := by
  refine Ctr.intro (n := 5) Try.func15 rfl Try.ntmps15 (Nat.le_of_ble_eq_true rfl) ?_
  refine W_seq ?_
  refine W_reg rfl ?_
  refine O_qs (q_assign rfl) ?_
  refine O_nil ?_
  refine W_seq ?_
  refine W_reg rfl ?_
  refine O_qs (q_move rfl) ?_
  refine O_es (e_cf Try.call25 rfl (fun wd hwd => (hist_pick wd sa n cap L hn (hb.still hwd) hlen 27 #[] (fun c => decide (c.to_ = -1)) Try.call27 (fun _ w _ c => hist_isOpen w c))) (by repeat (first | exact Pick.nil | exact Take.here | apply Pick.cons | apply Take.there))) ?_
  rintro _ _ ⟨_, ⟨A, hA, rfl⟩, rfl⟩
  refine O_qs (q_assign rfl) ?_
  refine O_nil ?_
  refine W_ret ?_
  refine res1 (c0 := [A]) rfl rfl (by repeat (first | exact Pick.nil | exact Take.here | apply Pick.cons | apply Take.there)) rfl ?_
  exact ⟨A, hA, rfl⟩
end Go.Proofs.Ytolcdmbjddekeaa
