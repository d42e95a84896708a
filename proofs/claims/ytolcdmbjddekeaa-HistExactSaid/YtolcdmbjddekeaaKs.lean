/-
  Rows of at most one number are sorted; the keys of calls.
-/
import Derived.Test.YtolcdmbjddekeaaH4
import Derived.Test.YtolcdmbjddekeaaKy
set_option linter.unusedSimpArgs false
set_option linter.unusedVariables false
namespace Go.SL
def byteAt (s : ByteArray) (i : Int) : Int := ((s[i.toNat]?.getD 0).toNat : Int)
theorem byteAt_w (s : ByteArray) (i : Int) : 0 ≤ byteAt s i ∧ byteAt s i < 256 := by
  unfold byteAt
  have := (s[i.toNat]?.getD 0).toNat_lt
  omega
theorem byte_wrap (s : ByteArray) (i : Int) : IntKind.i64.wrap (byteAt s i) = byteAt s i := by
  have := byteAt_w s i
  exact w64 (by omega)
theorem byte_add (s : ByteArray) (i : Int) : IntKind.i64.wrap (0 + byteAt s i) = byteAt s i := by
  rw [Int.zero_add]; exact byte_wrap s i
theorem q_indexS {M : Mach} {all : Array Oper} {env : Env} {ctx : Ctx} {dst : Option Tmp} {ty : TypeId} {pos : String} {aft : Array Edge} {t : TypeId} {x ix : Operand} {s : ByteArray} {k : IntKind} {i : Int} (hu : ∀ w, (underlying t).run M.P w = .ok .string w)
    (hx : evalO env x = some (.string s)) (hi : evalO env ix = some (.int k i)) (h0 : 0 ≤ i) (hlt : i.toNat < s.size) : QY M all ⟨dst, .index t x ix, ty, pos, aft, none⟩ env ctx (.int .u8 (byteAt s i)) :=
  QY.val rfl fun ρ w h _ => by
    have hb : s[i.toNat]? = some s[i.toNat] := by simp [hlt]
    simp [execOp, h x _ (by simp [Op.operands]) hx, h ix _ (by simp [Op.operands]) hi, Instr.index, asIntOf, Sem.run_bind, hu, Result.andThen, h0, hb, byteAt]
end Go.SL
namespace Go.Proofs.Ytolcdmbjddekeaa
open Go Go.SL

theorem bits_Len64 (B : World) (x : Int) (hx : 0 ≤ x ∧ x < 256) : Ctr Try.prog 48 [.int .u64 x] B [] (fun u c => (∃ k : Int, 0 ≤ k ∧ k ≤ 255 ∧ u = .int .i64 k) ∧ c = []) := by
  have w8 : IntKind.u8.wrap x = x := by
    simp only [IntKind.wrap, IntKind.bits, IntKind.signed, Bool.false_and, Bool.false_eq_true, if_false]
    omega
  refine Ctr.intro (n := 25) Try.func48 rfl Try.ntmps48 (Nat.le_of_ble_eq_true rfl) ?_
  refine W_seq ?_
  refine W_reg rfl ?_
  refine O_qs (q_assign rfl) ?_
  refine O_nil ?_
  refine W_seq ?_
  refine W_seq ?_
  refine W_reg rfl ?_
  refine O_qs (q_move rfl) ?_
  refine O_qs (q_geq rfl rfl) ?_
  refine O_nil ?_
  refine W_fa rfl ((by simp; omega)) ?_
  refine W_skip ?_
  refine W_seq ?_
  refine W_seq ?_
  refine W_reg rfl ?_
  refine O_qs (q_move rfl) ?_
  refine O_qs (q_geq rfl rfl) ?_
  refine O_nil ?_
  refine W_fa rfl ((by simp; omega)) ?_
  refine W_skip ?_
  refine W_seq ?_
  refine W_seq ?_
  refine W_reg rfl ?_
  refine O_qs (q_move rfl) ?_
  refine O_qs (q_geq rfl rfl) ?_
  refine O_nil ?_
  refine W_fa rfl ((by simp; omega)) ?_
  refine W_skip ?_
  refine W_seq ?_
  refine W_reg rfl ?_
  refine O_qs (q_move rfl) ?_
  refine O_qs (q_move rfl) ?_
  refine O_qs (q_conv (c := x) Try.runUnderlying25 Try.runUnderlying5 w8 rfl) ?_
  refine O_qs (q_indexS Try.runUnderlying9 rfl rfl hx.1 (Nat.lt_of_lt_of_le (by omega : x.toNat < 256) (Nat.le_of_ble_eq_true (by kernel_rfl)))) ?_
  refine O_qs (q_conv Try.runUnderlying5 Try.runUnderlying3 (byte_wrap _ x) rfl) ?_
  refine O_qs (q_add (byte_add _ x) rfl rfl) ?_
  refine O_qs (q_assign rfl) ?_
  refine O_nil ?_
  refine W_ret ?_
  refine res1 (c0 := []) rfl rfl (by repeat (first | exact Pick.nil | exact Take.here | apply Pick.cons | apply Take.there)) rfl ?_
  refine ⟨⟨_, ?_, ?_, rfl⟩, rfl⟩
  · exact (byteAt_w _ x).1
  · exact Int.le_of_lt_add_one (byteAt_w _ x).2

theorem bits_Len (B : World) (x : Int) (hx : 0 ≤ x ∧ x < 256) : Ctr Try.prog 37 [.int .u64 x] B [] (fun u c => (∃ k : Int, 0 ≤ k ∧ k ≤ 255 ∧ u = .int .i64 k) ∧ c = []) := by
  refine Ctr.intro (n := 8) Try.func37 rfl Try.ntmps37 (Nat.le_of_ble_eq_true rfl) ?_
  refine W_seq ?_
  refine W_reg rfl ?_
  refine O_qs (q_assign rfl) ?_
  refine O_nil ?_
  refine W_seq ?_
  refine W_false rfl ?_
  refine W_skip ?_
  refine W_seq ?_
  refine W_reg rfl ?_
  refine O_qs (q_move rfl) ?_
  refine O_es (e_cf Try.call48 rfl (fun wd hwd => (bits_Len64 _ x hx)) (by repeat (first | exact Pick.nil | exact Take.here | apply Pick.cons | apply Take.there))) ?_
  rintro _ _ ⟨_, ⟨⟨k, hk0, hk1, rfl⟩, rfl⟩, rfl⟩
  refine O_qs (q_assign rfl) ?_
  refine O_nil ?_
  refine W_ret ?_
  refine res1 (c0 := []) rfl rfl (by repeat (first | exact Pick.nil | exact Take.here | apply Pick.cons | apply Take.there)) rfl ?_
  exact ⟨⟨k, hk0, hk1, rfl⟩, rfl⟩

theorem insertion_small (B : World) (v : Value) (n : Int) (hn : n ≤ 1) : Ctr Try.prog 38 [v, .int .i64 0, .int .i64 n] B [] (fun u c => u = .tuple #[] ∧ c = []) := by
  refine Ctr.intro (n := 49) Try.func38 rfl Try.ntmps38 (Nat.le_of_ble_eq_true rfl) ?_
  refine W_seq ?_
  refine W_reg rfl ?_
  refine O_qs (q_move rfl) ?_
  refine O_qs (q_add (w64 (by omega)) rfl rfl) ?_
  refine O_qs (q_assign rfl) ?_
  refine O_nil ?_
  refine W_block ?_
  refine W_unroll ?_
  refine W_seq ?_
  refine W_seq ?_
  refine W_reg rfl ?_
  refine O_qs (q_move rfl) ?_
  refine O_qs (q_move rfl) ?_
  refine O_qs (q_lss rfl rfl) ?_
  refine O_nil ?_
  refine W_fa rfl ((by simp; omega)) ?_
  refine W_exit ?_
  refine res0 (c0 := []) rfl (by repeat (first | exact Pick.nil | exact Take.here | apply Pick.cons | apply Take.there)) rfl ?_
  exact ⟨rfl, rfl⟩

theorem pdq_small (B : World) (v : Value) (n k : Int) (h0 : 0 ≤ n) (hn : n ≤ 1) : Ctr Try.prog 36 [v, .int .i64 0, .int .i64 n, .int .i64 k] B [] (fun u c => u = .tuple #[] ∧ c = []) := by
  refine Ctr.intro (n := 134) Try.func36 rfl Try.ntmps36 (Nat.le_of_ble_eq_true rfl) ?_
  refine W_seq ?_
  refine W_reg rfl ?_
  refine O_qs (q_assign rfl) ?_
  refine O_nil ?_
  refine W_seq ?_
  refine W_reg rfl ?_
  refine O_qs (q_assign rfl) ?_
  refine O_nil ?_
  refine W_block ?_
  refine W_unroll ?_
  refine W_block ?_
  refine W_seq ?_
  refine W_reg rfl ?_
  refine O_qs (q_move rfl) ?_
  refine O_qs (q_move rfl) ?_
  refine O_qs (q_sub (w64 (by omega)) rfl rfl) ?_
  refine O_qs (q_assign rfl) ?_
  refine O_nil ?_
  refine W_seq ?_
  refine W_seq ?_
  refine W_reg rfl ?_
  refine O_qs (q_move rfl) ?_
  refine O_qs (q_leq rfl rfl) ?_
  refine O_nil ?_
  refine W_tr rfl ((by simp; omega)) ?_
  refine W_seq ?_
  refine W_reg rfl ?_
  refine O_qs (q_move rfl) ?_
  refine O_qs (q_move rfl) ?_
  refine O_qs (q_move rfl) ?_
  refine O_qs (q_cf Try.call38 rfl (fun wd hwd => (insertion_small _ v n hn)) (by repeat (first | exact Pick.nil | exact Take.here | apply Pick.cons | apply Take.there))) ?_
  refine O_nil ?_
  refine W_ret ?_
  refine res0 (c0 := []) rfl (by repeat (first | exact Pick.nil | exact Take.here | apply Pick.cons | apply Take.there)) rfl ?_
  exact ⟨rfl, rfl⟩

theorem Sort_small (B : World) (a : Option Addr) (n cap : Nat) (hn : n ≤ 1) : Ctr Try.prog 33 [.slice a n cap] B [] (fun u c => u = .tuple #[] ∧ c = []) := by
  refine Ctr.intro (n := 11) Try.func33 rfl Try.ntmps33 (Nat.le_of_ble_eq_true rfl) ?_
  refine W_seq ?_
  refine W_reg rfl ?_
  refine O_qs (q_move rfl) ?_
  refine O_qs (q_len Try.runUnderlying55 rfl) ?_
  refine O_qs (q_assign rfl) ?_
  refine O_nil ?_
  refine W_reg rfl ?_
  refine O_qs (q_move rfl) ?_
  refine O_qs (q_move rfl) ?_
  refine O_qs (q_move rfl) ?_
  refine O_qs (q_conv (c := (n : Int)) Try.runUnderlying3 Try.runUnderlying79 (wu64 (by omega)) rfl) ?_
  refine O_es (e_cf Try.call37 rfl (fun wd hwd => (bits_Len _ (n : Int) (by omega))) (by repeat (first | exact Pick.nil | exact Take.here | apply Pick.cons | apply Take.there))) ?_
  rintro _ _ ⟨_, ⟨⟨k, hk0, hk1, rfl⟩, rfl⟩, rfl⟩
  refine O_qs (q_cf Try.call36 rfl (fun wd hwd => (pdq_small _ (.slice a n cap) (n : Int) k (by omega) (by omega))) (by repeat (first | exact Pick.nil | exact Take.here | apply Pick.cons | apply Take.there))) ?_
  refine O_nil ?_
  refine res0 (c0 := []) rfl (by repeat (first | exact Pick.nil | exact Take.here | apply Pick.cons | apply Take.there)) rfl ?_
  exact ⟨rfl, rfl⟩

theorem slices_Collect (B : World) (g : FuncId) (lb : List Value) (S : List Int → Prop) (N : Nat) (X Y : Atom) (hN : N ≤ 1000000) (hcf : ∀ args w, (callFunc g args).run Try.prog w = .ok (.enter g args) w)
    (hI : Gives Try.prog g lb (Value.int .u64) S N [X, Y] [X, Y]) :
    Ctr Try.prog 32 [.func (.func g) #[] lb.toArray] B [X, Y] (fun u c => ∃ xs R, S xs ∧ Row layU 25 R u xs ∧ c = [R, X, Y]) := by
  refine Ctr.intro (n := 5) Try.func32 rfl Try.ntmps32 (Nat.le_of_ble_eq_true rfl) ?_
  refine W_seq ?_
  refine W_reg rfl ?_
  refine O_qs (q_assign rfl) ?_
  refine O_nil ?_
  refine W_seq ?_
  refine W_reg rfl ?_
  refine O_qs (q_move rfl) ?_
  refine O_es (e_cf Try.call35 rfl (fun wd hwd => (slices_AppendSeq _ g lb S N [X, Y] [X, Y] hN hcf hI)) (by repeat (first | exact Pick.nil | exact Take.here | apply Pick.cons | apply Take.there))) ?_
  rintro _ _ ⟨_, ⟨xs, R, hS, hR, rfl⟩, rfl⟩
  refine O_qs (q_assign rfl) ?_
  refine O_nil ?_
  refine W_ret ?_
  refine res1 (c0 := [R, X, Y]) rfl rfl (by repeat (first | exact Pick.nil | exact Take.here | apply Pick.cons | apply Take.there)) rfl ?_
  exact ⟨xs, R, hS, hR, rfl⟩

/-- What is asked of a sort. -/
def SortOk (xs : List Int) : Prop := ∀ (B : World) (R : Atom) (v : Value), Row layU 25 R v xs →
  Ctr Try.prog 33 [v] B [R] (fun u c => u = .tuple #[] ∧ ∃ R' ys, Row layU 25 R' v ys ∧ ys.Perm xs ∧ ys.Pairwise (· ≤ ·) ∧ c = [R'])

theorem pairwise_small {xs : List Int} (h : xs.length ≤ 1) : xs.Pairwise (· ≤ ·) := by
  cases xs with
  | nil => exact List.Pairwise.nil
  | cons x r =>
    cases r with
    | nil => exact List.pairwise_singleton _ _
    | cons y r => simp at h
theorem sortOk_small {xs : List Int} (h : xs.length ≤ 1) : SortOk xs := by
  intro B R v hR hi
  obtain ⟨a, cap, rfl⟩ := hR.len
  have h1 := (Sort_small B a xs.length cap h).framed (Pick.nil (c := [R])) hi
  refine Calls.mono h1 ?_
  rintro e w ⟨u, pst, he, hinv, hu, hp⟩
  subst hp
  exact ⟨u, [R], he, hinv, hu, R, xs, hR, List.Perm.refl _, pairwise_small h, rfl⟩

theorem slices_Sorted (B : World) (g : FuncId) (lb : List Value) (S : List Int → Prop) (N : Nat) (X Y : Atom) (hN : N ≤ 1000000) (hcf : ∀ args w, (callFunc g args).run Try.prog w = .ok (.enter g args) w)
    (hI : Gives Try.prog g lb (Value.int .u64) S N [X, Y] [X, Y]) (hs : ∀ xs, S xs → SortOk xs) :
    Ctr Try.prog 29 [.func (.func g) #[] lb.toArray] B [X, Y] (fun u c => ∃ xs ys R, S xs ∧ ys.Perm xs ∧ ys.Pairwise (· ≤ ·) ∧ Row layU 25 R u ys ∧ c = [R, X, Y]) := by
  refine Ctr.intro (n := 9) Try.func29 rfl Try.ntmps29 (Nat.le_of_ble_eq_true rfl) ?_
  refine W_seq ?_
  refine W_reg rfl ?_
  refine O_qs (q_assign rfl) ?_
  refine O_nil ?_
  refine W_seq ?_
  refine W_reg rfl ?_
  refine O_qs (q_move rfl) ?_
  refine O_es (e_cf Try.call32 rfl (fun wd hwd => (slices_Collect _ g lb S N X Y hN hcf hI)) (by repeat (first | exact Pick.nil | exact Take.here | apply Pick.cons | apply Take.there))) ?_
  rintro _ _ ⟨_, ⟨xs, R, hS, hR, rfl⟩, rfl⟩
  refine O_qs (q_assign rfl) ?_
  refine O_nil ?_
  refine W_seq ?_
  refine W_reg rfl ?_
  refine O_qs (q_move rfl) ?_
  refine O_es (e_cf Try.call33 rfl (fun wd hwd => (hs xs hS _ R _ hR)) (by repeat (first | exact Pick.nil | exact Take.here | apply Pick.cons | apply Take.there))) ?_
  rintro _ _ ⟨_, ⟨rfl, R', ys, hR', hp, hpw, rfl⟩, rfl⟩
  refine O_nil ?_
  refine W_seq ?_
  refine W_reg rfl ?_
  refine O_qs (q_move rfl) ?_
  refine O_qs (q_assign rfl) ?_
  refine O_nil ?_
  refine W_ret ?_
  refine res1 (c0 := [R', X, Y]) rfl rfl (by repeat (first | exact Pick.nil | exact Take.here | apply Pick.cons | apply Take.there)) rfl ?_
  exact ⟨xs, ys, R', hS, hp, hpw, hR', rfl⟩

/-- The keys of calls, counted. -/
def keyF (l : List (Int × Int)) (c : HCall) : List (Int × Int) := if c.op.kind = 8 then l else mput l c.op.key (IntKind.i64.wrap ((mget l c.op.key).getD 0 + 1))
def keyAll (L : List HCall) : List (Int × Int) := L.foldl keyF []

theorem mput_len {V : Type} (l : List (Int × V)) (p : Int) (w : V) : (mput l p w).length ≤ l.length + 1 := by
  induction l with
  | nil => simp [mput]
  | cons x r ih =>
    obtain ⟨q, u⟩ := x
    simp only [mput]
    split
    · simp
    · simp only [List.length_cons]; omega
theorem keyAll_len (L : List HCall) : (keyAll L).length ≤ L.length := by
  have : ∀ (L : List HCall) (l : List (Int × Int)), (L.foldl keyF l).length ≤ l.length + L.length := by
    intro L
    induction L with
    | nil => intro l; simp
    | cons c L ih =>
      intro l
      rw [List.foldl_cons]
      have h1 := ih (keyF l c)
      have h2 : (keyF l c).length ≤ l.length + 1 := by
        unfold keyF
        split
        · omega
        · exact mput_len ..
      simp only [List.length_cons]
      omega
  have := this L []
  simpa [keyAll] using this
theorem keyAll_take {L : List HCall} {i : Nat} {c : HCall} (h : L[i]? = some c) : keyAll (L.take (i + 1)) = keyF (keyAll (L.take i)) c := by
  rw [List.take_add_one, h]
  simp [keyAll, List.foldl_append]

theorem lk_K {B : World} {own : List Nat} {n : Nat} {all : Array Oper} {env : Env} {ctx : Ctx} {dst : Option Tmp} {ty : TypeId} {pos : String} {aft : Array Edge} {x y : Operand} {A : Atom} {mb : Nat} {l : List (Int × Int)} {p : Int}
    (hA : MapIs (Value.int .u64) (Value.int .i64) A mb l) (hm : A ∈ ctx) (hx : evalO env x = some (.map (some mb))) (hy : evalO env y = some (.int .u64 p)) :
    QY ⟨Try.prog, B, own, n⟩ all ⟨dst, .lookup 66 x y false, ty, pos, aft, none⟩ env ctx (.int .i64 ((mget l p).getD 0)) := by
  have h : mgetD (Value.int .i64) (.int .i64 0) l p = .int .i64 ((mget l p).getD 0) := by
    unfold mgetD
    cases mget l p <;> rfl
  rw [← h]
  exact q_lookup Try.runUnderlying66 keyU Try.zeroValue3 hA hm hx hy

theorem hist_Keys (B : World) (sa : Option Addr) (n cap : Nat) (L : List HCall) (hn : L.length = n) (hb : BaseRow layH B sa L) (hlen : L.length ≤ 1000000) (hs : ∀ xs, xs.Perm ((keyAll L).map (·.1)) → SortOk xs) :
    Ctr Try.prog 19 [.slice sa n cap] B [] (fun u k => ∃ ys R, ys.Perm ((keyAll L).map (·.1)) ∧ ys.Pairwise (· ≤ ·) ∧ Row layU 25 R u ys ∧ k = [R]) := by
  subst hn
  refine Ctr.intro (n := 27) Try.func19 rfl Try.ntmps19 (Nat.le_of_ble_eq_true rfl) ?_
  refine W_seq ?_
  refine W_reg rfl ?_
  refine O_qs (q_assign rfl) ?_
  refine O_nil ?_
  refine W_seq ?_
  refine W_reg rfl ?_
  refine O_es (e_makeMap (ek := Value.int .u64) (ev := Value.int .i64)) ?_
  rintro _ _ ⟨mb, M, hM, rfl, rfl⟩
  refine O_qs (q_assign rfl) ?_
  refine O_nil ?_
  refine W_seq ?_
  refine W_seq ?_
  refine W_reg rfl ?_
  refine O_qs (q_move rfl) ?_
  refine O_qs (q_len Try.runUnderlying35 rfl) ?_
  refine O_qs (q_move rfl) ?_
  refine O_nil ?_
  refine W_block ?_
  refine W_loopD (fun (d : Nat × Atom) => [(9, .int .i64 (d.1 : Int)), (8, .int .i64 (L.length : Int)), (7, .slice sa L.length cap), (3, .map (some mb))]) (fun d => [d.2]) (fun d => L.length - d.1) (fun d => d.1 ≤ L.length ∧ MapIs (Value.int .u64) (Value.int .i64) d.2 mb (keyAll (L.take d.1))) (0, M) ?_ (by repeat (first | exact Sub.nil | refine Sub.cons rfl ?_)) (by repeat (first | exact Pick.nil | exact Take.here | apply Pick.cons | apply Take.there)) ?_
  · exact ⟨Nat.zero_le _, hM⟩
  · rintro ⟨i, M⟩ ⟨hi, hM⟩
    dsimp only at hi hM ⊢
    refine W_seq ?_
    refine W_reg rfl ?_
    refine O_qs (q_lss rfl rfl) ?_
    refine O_nil ?_
    refine W_seq ?_
    refine W_cond rfl ?_ ?_
    · intro hcnd
      have hlt : i < L.length := by simpa using hcnd
      have hL : L[i]? = some L[i] := List.getElem?_eq_getElem hlt
      obtain ⟨b0, o0, rfl⟩ := hb.ptr hlt
      have hstep := keyAll_take hL
      generalize L[i] = c at hL hstep
      refine W_skip ?_
      refine W_seq ?_
      refine W_block ?_
      refine W_seq ?_
      refine W_reg rfl ?_
      refine O_qs (q_ian Try.runUnderlying35 Try.sizeOf44 rfl rfl hlt) ?_
      refine O_qs (q_loadN (vs := HCall.l c) Try.isAgg44 Try.sizeOf44 rfl (hb.rds hL rfl)) ?_
      refine O_es (e_alloc (cs := #[.int .i64 0, .int .i64 0, .int .i64 0, .int .u64 0, .int .u64 0, .int .i64 0, .int .i64 0, .int .i64 0, .int .i64 0, .bool false, .int .u64 0]) Try.zeroValue44 rfl) ?_
      rintro _ _ ⟨b5, rfl, rfl⟩
      refine O_en (e_storeN (vs := [_, _, _, _, _, _, _, _, _, _, _]) Try.sizeOf44 rfl rfl rfl (by repeat (first | exact Upd.here | apply Upd.there)) rfl (by simp only [setAll, List.setIfInBounds_toArray, List.set_cons_succ, List.set_cons_zero, Nat.reduceAdd, Nat.zero_add] <;> rfl)) ?_
      rintro _ _ ⟨rfl, rfl⟩
      refine O_nil ?_
      refine W_seq ?_
      refine W_reg rfl ?_
      refine O_qs (q_fa fa_44_2 rfl) ?_
      refine O_qs (q_fa fa_27_0 rfl) ?_
      refine O_qs (q_load Try.isAgg3 rfl (rd_chunk (by repeat (first | exact List.Mem.head _ | apply List.Mem.tail)) rfl)) ?_
      refine O_qs (q_neq rfl rfl) ?_
      refine O_nil ?_
      refine W_cond rfl ?_ ?_
      · intro hk
        have hk' : ¬ c.op.kind = 8 := by simpa using hk
        have hst : keyAll (L.take (i + 1)) = mput (keyAll (L.take i)) c.op.key (IntKind.i64.wrap ((mget (keyAll (L.take i)) c.op.key).getD 0 + 1)) := by rw [hstep]; unfold keyF; rw [if_neg hk']
        refine W_reg rfl ?_
        refine O_qs (q_move rfl) ?_
        refine O_qs (q_fa fa_44_2 rfl) ?_
        refine O_qs (q_fa fa_27_1 rfl) ?_
        refine O_qs (q_load Try.isAgg25 rfl (rd_chunk (by repeat (first | exact List.Mem.head _ | apply List.Mem.tail)) rfl)) ?_
        refine O_qs (lk_K hM (by repeat (first | exact List.Mem.head _ | apply List.Mem.tail)) rfl rfl) ?_
        refine O_qs (q_add rfl rfl rfl) ?_
        refine O_en (e_mapUpdate Try.runUnderlying66 keyU hM (fun _ => (by repeat (first | exact Upd.here | apply Upd.there))) rfl rfl rfl) ?_
        rintro _ _ ⟨M', hM', rfl, rfl⟩
        refine O_nil ?_
        refine W_reg rfl ?_
        refine O_qs (q_add (c := ((i + 1 : Nat) : Int)) (w64' (by omega) (by omega)) rfl rfl) ?_
        refine O_qs (q_move rfl) ?_
        refine O_nil ?_
        refine ⟨(i + 1, M'), _, ?_, ?_, (by repeat (first | exact Sub.nil | refine Sub.cons rfl ?_)), (by repeat (first | exact Pick.nil | exact Take.here | apply Pick.cons | apply Take.there))⟩
        · exact ⟨hlt, by rw [hst]; exact hM'⟩
        · dsimp only; omega
      · intro hk
        have hk' : c.op.kind = 8 := by simpa using hk
        have hst : keyAll (L.take (i + 1)) = keyAll (L.take i) := by rw [hstep]; unfold keyF; rw [if_pos hk']
        refine W_skip ?_
        refine W_reg rfl ?_
        refine O_qs (q_add (c := ((i + 1 : Nat) : Int)) (w64' (by omega) (by omega)) rfl rfl) ?_
        refine O_qs (q_move rfl) ?_
        refine O_nil ?_
        refine ⟨(i + 1, M), _, ?_, ?_, (by repeat (first | exact Sub.nil | refine Sub.cons rfl ?_)), (by repeat (first | exact Pick.nil | exact Take.here | apply Pick.cons | apply Take.there))⟩
        · exact ⟨hlt, by rw [hst]; exact hM⟩
        · dsimp only; omega
    · intro hcnd
      have hil : i = L.length := by simp at hcnd; omega
      subst hil
      rw [List.take_length] at hM
      refine W_exit ?_
      refine W_seq ?_
      refine W_reg rfl ?_
      refine O_qs (q_move rfl) ?_
      refine O_es (e_cf Try.call30 rfl (fun wd hwd => (maps_Keys _ mb)) (by repeat (first | exact Pick.nil | exact Take.here | apply Pick.cons | apply Take.there))) ?_
      rintro _ _ ⟨_, ⟨bx, rfl, rfl⟩, rfl⟩
      refine O_es (e_cf Try.call29 rfl (fun wd hwd => (slices_Sorted _ _ [ptr bx] (fun ks => ks.Perm ((keyAll L).map (·.1))) (keyAll L).length [(bx, .cells #[.map (some mb)] 66 (0, 0))] M (Nat.le_trans (keyAll_len L) hlen) Try.call34 (keys1_gives mb bx M _ hM) hs)) (by repeat (first | exact Pick.nil | exact Take.here | apply Pick.cons | apply Take.there))) ?_
      rintro _ _ ⟨_, ⟨xs, ys, R, hS, hp, hpw, hR, rfl⟩, rfl⟩
      refine O_qs (q_assign rfl) ?_
      refine O_nil ?_
      refine W_ret ?_
      refine res1 (c0 := [R]) rfl rfl (by repeat (first | exact Pick.nil | exact Take.here | apply Pick.cons | apply Take.there)) rfl ?_
      exact ⟨ys, R, hp.trans hS, hpw, hR, rfl⟩
end Go.Proofs.Ytolcdmbjddekeaa
