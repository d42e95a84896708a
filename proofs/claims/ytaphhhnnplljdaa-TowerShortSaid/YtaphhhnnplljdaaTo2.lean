/-
  Walks: a level of a skip list; the slots of a skip list, by rising keys.
-/
import Derived.Test.YtaphhhnnplljdaaTo1
set_option linter.unusedSimpArgs false
set_option linter.unusedVariables false
namespace Go.Proofs.Ytaphhhnnplljdaa
open Go Go.SL

def NdT.l (x : NdT) : List Value := [.int .i64 x.slot, .int .u64 x.key, .int .i64 x.top, .int .i64 x.marks]
def layT : Lay NdT where
  enc := NdT.l
  size := 4
  pos := by decide
  len := fun _ => rfl
  one := by
    intro a u h
    simp only [NdT.l, List.mem_cons, List.not_mem_nil, or_false] at h
    rcases h with rfl | rfl | rfl | rfl <;> rfl
theorem ap_T {B : World} {own : List Nat} {n : Nat} {all : Array Oper} {env : Env} {ctx : Ctx} {dst : Option Tmp} {ty : TypeId} {pos : String} {aft : Array Edge} {x y : Operand} {A : Atom} {v u : Value} {L N : List NdT} {c' : Atom → Ctx}
    (hA : Row layT 98 A v L) (hm : ∀ A', Upd ctx A A' (c' A')) (hx : evalO env x = some v) (hy : evalO env y = some u) (hs : Src ⟨Try.prog, B, own, n⟩ ctx u N.length (layT.all N)) (hl : L.length + N.length ≤ 1099511627776) :
    EY ⟨Try.prog, B, own, n⟩ all ⟨dst, .call ⟨.builtin .append, #[x, y], #[95, 95]⟩, ty, pos, aft, none⟩ env ctx (fun v' c => ∃ A', Row layT 98 A' v' (L ++ N) ∧ c = c' A') :=
  e_append (Y := layT) (i := Try.t98) (bytes := 32) Try.underlying95 (by kernel_rfl) rfl rfl rfl rfl hA hm hx hy hs (by omega) (by simp only [maxLen]; omega)

theorem ref18_Bit (B : World) (k : Nat) (hk : k ≤ 1000) : Ctr Try.prog 87 [.int .i64 0, .int .i64 (k : Int)] B [] (fun u c => u = .bool false ∧ c = []) := by
  refine Ctr.intro (n := 16) Try.func87 rfl Try.ntmps87 (Nat.le_of_ble_eq_true rfl) ?_
  refine W_seq ?_
  refine W_reg rfl ?_
  refine O_qs (q_assign rfl) ?_
  refine O_nil ?_
  refine W_seq ?_
  refine W_seq ?_
  refine W_reg rfl ?_
  refine O_qs (q_assign rfl) ?_
  refine O_nil ?_
  refine W_block ?_
  refine W_loopD (fun (i : Nat) => [(5, .int .i64 (i : Int)), (1, .int .i64 (k : Int)), (0, .int .i64 0)]) (fun _ => []) (fun i => k - i) (fun i => i ≤ k) 0 ?_ (by repeat (first | exact Sub.nil | refine Sub.cons rfl ?_)) (by repeat (first | exact Pick.nil | exact Take.here | apply Pick.cons | apply Take.there)) ?_
  · exact Nat.zero_le _
  · rintro i hi
    refine W_seq ?_
    refine W_seq ?_
    refine W_reg rfl ?_
    refine O_qs (q_move rfl) ?_
    refine O_qs (q_move rfl) ?_
    refine O_qs (q_lss rfl rfl) ?_
    refine O_nil ?_
    refine W_cond rfl ?_ ?_
    · intro hc
      have hlt : i < k := by simpa using hc
      refine W_skip ?_
      refine W_seq ?_
      refine W_block ?_
      refine W_reg rfl ?_
      refine O_qs (q_move rfl) ?_
      refine O_qs (q_quo (c := 0) (by decide) rfl rfl rfl) ?_
      refine O_qs (q_assign rfl) ?_
      refine O_nil ?_
      refine W_reg rfl ?_
      refine O_qs (q_move rfl) ?_
      refine O_qs (q_add (c := ((i + 1 : Nat) : Int)) (w64' (by omega) (by omega)) rfl rfl) ?_
      refine O_qs (q_assign rfl) ?_
      refine O_nil ?_
      refine ⟨(i + 1), _, ?_, ?_, (by repeat (first | exact Sub.nil | refine Sub.cons rfl ?_)), (by repeat (first | exact Pick.nil | exact Take.here | apply Pick.cons | apply Take.there))⟩
      · exact hlt
      · omega
    · intro hc
      refine W_exit ?_
      refine W_seq ?_
      refine W_reg rfl ?_
      refine O_qs (q_move rfl) ?_
      refine O_qs (q_rem (c := 0) (by decide) rfl rfl rfl) ?_
      refine O_qs (q_eql rfl rfl) ?_
      refine O_qs (q_assign rfl) ?_
      refine O_nil ?_
      refine W_ret ?_
      refine res1 (c0 := []) rfl rfl (by repeat (first | exact Pick.nil | exact Take.here | apply Pick.cons | apply Take.there)) rfl ?_
      exact ⟨rfl, rfl⟩

theorem lvl_take {k : Int} {S : List NdT} {i : Nat} {z : NdT} (h : S[i]? = some z) : lvl k (S.take (i + 1)) = lvl k (S.take i) ++ if k < z.top then [⟨z.slot, z.key, 0, false⟩] else [] := by
  rw [List.take_add_one, h]
  unfold lvl
  simp only [Option.toList_some, List.filter_append, List.map_append, List.filter_cons, List.filter_nil]
  by_cases hz : k < z.top <;> simp [hz]
theorem lvl_len {k : Int} {S : List NdT} : (lvl k S).length ≤ S.length := by
  unfold lvl
  rw [List.length_map]
  exact List.length_filter_le ..

theorem ref18_Level (B : World) (N : Atom) (u0 : Value) (S : List NdT) (k : Nat) (hN : Row layT 98 N u0 S) (hS : S.length ≤ 1000000) (hk : k ≤ 1000) (hm : ∀ z, z ∈ S → z.marks = 0) :
    Ctr Try.prog 45 [u0, .int .i64 (k : Int)] B [N] (fun u c => ∃ M, Row layN 74 M u (lvl k S) ∧ c = [N, M]) := by
  obtain ⟨sa, cap, rfl⟩ := hN.len
  refine Ctr.intro (n := 43) Try.func45 rfl Try.ntmps45 (Nat.le_of_ble_eq_true rfl) ?_
  refine W_seq ?_
  refine W_reg rfl ?_
  refine O_qs (q_assign rfl) ?_
  refine O_nil ?_
  refine W_seq ?_
  refine W_reg rfl ?_
  refine O_es (e_bslice (zl := []) (cs := []) Try.runUnderlying65 Try.sizeOf74 Try.zeroValue74 rfl (by kernel_rfl) rfl rfl) ?_
  rintro _ _ ⟨b7, rfl, rfl⟩
  refine O_qs (q_assign rfl) ?_
  refine O_nil ?_
  refine W_seq ?_
  refine W_seq ?_
  refine W_reg rfl ?_
  refine O_qs (q_assign rfl) ?_
  refine O_nil ?_
  refine W_block ?_
  refine W_loopD (fun (d : Nat × Option Addr × Nat × Atom × List Nd) => [(6, .int .i64 (d.1 : Int)), (5, .slice d.2.1 d.2.2.2.2.length d.2.2.1), (1, .int .i64 (k : Int)), (0, .slice sa S.length cap)]) (fun (_, _, _, M, _) => [N, M]) (fun d => S.length - d.1) (fun (i, a2, c2, M, out) => i ≤ S.length ∧ out.length ≤ i ∧ Row layN 74 M (.slice a2 out.length c2) out ∧ out = lvl k (S.take i)) (0, some ⟨b7, 0, none⟩, 0, [(b7, .cells #[] 74 (0, 0))], []) ?_ (by repeat (first | exact Sub.nil | refine Sub.cons rfl ?_)) (by repeat (first | exact Pick.nil | exact Take.here | apply Pick.cons | apply Take.there)) ?_
  · exact ⟨Nat.zero_le _, Nat.le_refl _, row_empty layN b7 74, rfl⟩
  · rintro ⟨i, a2, c2, M, out⟩ ⟨hi, hol, hM, hout⟩
    dsimp only at hi hol hM hout ⊢
    refine W_seq ?_
    refine W_seq ?_
    refine W_reg rfl ?_
    refine O_qs (q_move rfl) ?_
    refine O_qs (q_move rfl) ?_
    refine O_qs (q_len Try.runUnderlying95 rfl) ?_
    refine O_qs (q_lss rfl rfl) ?_
    refine O_nil ?_
    refine W_cond rfl ?_ ?_
    · intro hc
      have hlt : i < S.length := by simpa using hc
      obtain ⟨g, cap3, e⟩ := hN.ptr (by omega)
      simp only [Value.slice.injEq, true_and] at e
      obtain ⟨rfl, rfl⟩ := e
      have hV : S[i]? = some S[i] := List.getElem?_eq_getElem hlt
      have hzm : S[i].marks = 0 := hm _ (List.getElem_mem hlt)
      generalize S[i] = z at hV hzm
      have hst := lvl_take (k := (k : Int)) hV
      rw [← hout] at hst
      refine W_skip ?_
      refine W_seq ?_
      refine W_block ?_
      refine W_seq ?_
      refine W_reg rfl ?_
      refine O_qs (q_move rfl) ?_
      refine O_qs (q_move rfl) ?_
      refine O_qs (q_ian Try.runUnderlying95 Try.sizeOf98 rfl rfl hlt) ?_
      refine O_qs (q_fa fa_98_2 rfl) ?_
      refine O_qs (q_load Try.isAgg3 rfl (hN.rd (by repeat (first | exact List.Mem.head _ | apply List.Mem.tail)) hV (j := 2) rfl (by show 0 + i * 4 + 2 = _; simp [layT]))) ?_
      refine O_qs (q_move rfl) ?_
      refine O_qs (q_gtr rfl rfl) ?_
      refine O_nil ?_
      refine W_cond rfl ?_ ?_
      · intro ht
        have ht' : (k : Int) < z.top := by simpa using ht
        rw [if_pos ht'] at hst
        refine W_draw [[], [], [], [1, 2], [1, 2, 3], [1, 2, 3, 4], [], [], [6, 7], [6, 7, 8], [6, 7, 8, 9], [], [], [11, 12], [11, 12, 13], [11, 12, 13, 14], [], [11, 12, 13, 14, 15, 16], [1, 2, 3, 4, 5, 6, 7, 8, 9, 10, 11, 12, 13, 14, 15, 16, 17], [1, 2, 3, 4, 5, 6, 7, 8, 9, 10, 11, 12, 13, 14, 15, 16, 17, 18], [0, 1, 2, 3, 4, 5, 6, 7, 8, 9, 10, 11, 12, 13, 14, 15, 16, 17, 18, 19], [0, 1, 2, 3, 4, 5, 6, 7, 8, 9, 10, 11, 12, 13, 14, 15, 16, 17, 18, 19, 20]] rfl rfl rfl ?_
        refine V.qs 0 rfl rfl (q_move rfl) ?_
        refine V.qs 1 rfl rfl (q_move rfl) ?_
        refine V.qs 2 rfl rfl (q_move rfl) ?_
        refine V.qs 3 rfl rfl (q_ian Try.runUnderlying95 Try.sizeOf98 rfl rfl hlt) ?_
        refine V.qs 4 rfl rfl (q_fa fa_98_0 rfl) ?_
        refine V.qs 5 rfl rfl (q_load Try.isAgg3 rfl (hN.rd (by repeat (first | exact List.Mem.head _ | apply List.Mem.tail)) hV (j := 0) rfl (by show 0 + i * 4 + 0 = _; simp [layT]))) ?_
        refine V.qs 6 rfl rfl (q_move rfl) ?_
        refine V.qs 7 rfl rfl (q_move rfl) ?_
        refine V.qs 8 rfl rfl (q_ian Try.runUnderlying95 Try.sizeOf98 rfl rfl hlt) ?_
        refine V.qs 9 rfl rfl (q_fa fa_98_1 rfl) ?_
        refine V.qs 10 rfl rfl (q_load Try.isAgg41 rfl (hN.rd (by repeat (first | exact List.Mem.head _ | apply List.Mem.tail)) hV (j := 1) rfl (by show 0 + i * 4 + 1 = _; simp [layT]))) ?_
        refine V.qs 11 rfl rfl (q_move rfl) ?_
        refine V.qs 12 rfl rfl (q_move rfl) ?_
        refine V.qs 13 rfl rfl (q_ian Try.runUnderlying95 Try.sizeOf98 rfl rfl hlt) ?_
        refine V.qs 14 rfl rfl (q_fa fa_98_3 rfl) ?_
        refine V.qs 15 rfl rfl (q_load Try.isAgg3 rfl (hN.rd (by repeat (first | exact List.Mem.head _ | apply List.Mem.tail)) hV (j := 3) rfl (by show 0 + i * 4 + 3 = _; simp [layT]))) ?_
        refine V.qs 16 rfl rfl (q_move rfl) ?_
        rw [hzm]
        refine V.qs 17 rfl rfl (q_cf Try.call87 rfl (fun wd hwd => (ref18_Bit _ k hk)) (by repeat (first | exact Pick.nil | exact Take.here | apply Pick.cons | apply Take.there))) ?_
        refine V.qs 18 rfl rfl (q_build rfl (bld_74 (cs := [_, _, _, _]) rfl)) ?_
        refine V.e1s 19 [0] rfl rfl rfl (e_bslice (zl := [.int .i64 0, .int .u64 0, .int .u64 0, .bool false]) (cs := [_, _, _, _]) Try.runUnderlying65 Try.sizeOf74 Try.zeroValue74 rfl (by kernel_rfl) rfl rfl) ?_
        rintro _ _ ⟨b40, rfl, rfl⟩
        refine ⟨st rfl rfl (q_move rfl) (st_nil), ?_⟩
        refine V.e1s 20 [] rfl rfl rfl (ap_N (N := [⟨z.slot, z.key, 0, false⟩]) hM (fun _ => (by repeat (first | exact Upd.here | apply Upd.there))) rfl rfl (src_raw (by repeat (first | exact List.Mem.head _ | apply List.Mem.tail))) (by simp; omega)) ?_
        rintro _ _ ⟨M2, hM2, rfl⟩
        refine ⟨st_nil, ?_⟩
        refine V.e1s 21 [] rfl rfl rfl (EY.of_q (q_assign rfl)) ?_
        rintro _ _ ⟨rfl, rfl⟩
        refine ⟨st_nil, ?_⟩
        refine V.fin rfl ?_
        refine W_reg rfl ?_
        refine O_qs (q_move rfl) ?_
        refine O_qs (q_add (c := ((i + 1 : Nat) : Int)) (w64' (by omega) (by omega)) rfl rfl) ?_
        refine O_qs (q_assign rfl) ?_
        refine O_nil ?_
        obtain ⟨a3, c3, rfl⟩ := hM2.len
        refine ⟨(i + 1, a3, c3, M2, out ++ [⟨z.slot, z.key, 0, false⟩]), _, ?_, ?_, (by repeat (first | exact Sub.nil | refine Sub.cons rfl ?_)), (by repeat (first | exact Pick.nil | exact Take.here | apply Pick.cons | apply Take.there))⟩
        · exact ⟨hlt, by simp; omega, hM2, hst.symm⟩
        · dsimp only; omega
      · intro ht
        have ht' : ¬ (k : Int) < z.top := by simpa using ht
        rw [if_neg ht', List.append_nil] at hst
        refine W_skip ?_
        refine W_reg rfl ?_
        refine O_qs (q_move rfl) ?_
        refine O_qs (q_add (c := ((i + 1 : Nat) : Int)) (w64' (by omega) (by omega)) rfl rfl) ?_
        refine O_qs (q_assign rfl) ?_
        refine O_nil ?_
        refine ⟨(i + 1, a2, c2, M, out), _, ?_, ?_, (by repeat (first | exact Sub.nil | refine Sub.cons rfl ?_)), (by repeat (first | exact Pick.nil | exact Take.here | apply Pick.cons | apply Take.there))⟩
        · exact ⟨hlt, Nat.le_succ_of_le hol, hM, hst.symm⟩
        · dsimp only; omega
    · intro hc
      have hil : i = S.length := by simp at hc; omega
      rw [hil, List.take_length] at hout
      refine W_exit ?_
      refine W_seq ?_
      refine W_reg rfl ?_
      refine O_qs (q_move rfl) ?_
      refine O_qs (q_assign rfl) ?_
      refine O_nil ?_
      refine W_ret ?_
      refine res1 (c0 := [N, M]) rfl rfl (by repeat (first | exact Pick.nil | exact Take.here | apply Pick.cons | apply Take.there)) rfl ?_
      refine ⟨M, ?_, rfl⟩
      rw [← hout]
      exact hM
end Go.Proofs.Ytaphhhnnplljdaa
