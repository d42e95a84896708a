/-
  Walks: hist, rows of calls.
-/
import Derived.Test.YtolcdmbjddekeaaH1
set_option linter.unusedSimpArgs false
set_option linter.unusedVariables false
namespace Go.Proofs.Ytolcdmbjddekeaa
open Go Go.SL

@[reducible] def HCall.l (c : HCall) : List Value := [.int .i64 c.thread, .int .i64 c.at_, .int .i64 c.op.kind, .int .u64 c.op.key, .int .u64 c.op.val, .int .i64 c.op.level, .int .i64 c.from_, .int .i64 c.to_, .int .i64 c.ans.err, .bool c.ans.done, .int .u64 c.ans.val]
def layH : Lay HCall where
  enc := HCall.l
  size := 11
  pos := by decide
  len := fun _ => rfl
  one := by
    intro a u h
    simp only [HCall.l, List.mem_cons, List.not_mem_nil, or_false] at h
    rcases h with rfl | rfl | rfl | rfl | rfl | rfl | rfl | rfl | rfl | rfl | rfl <;> rfl

/-- The closure of Check: whether a call clashes with the one that it holds. -/
theorem hist_Check1 (B : World) (o c : HCall) (cb : Nat) (hc : BaseCells B cb (HCall.l c)) : Ctr Try.prog 23 [o.v, ptr cb] B [] (fun u k => u = .bool (o.clash c) ∧ k = []) := by
  refine Ctr.intro (n := 7) Try.func23 rfl Try.ntmps23 (Nat.le_of_ble_eq_true rfl) ?_
  refine W_seq ?_
  refine W_reg rfl ?_
  refine O_es (e_box (cs := #[_, _, _, _, _, _, _, _, _, _, _]) rfl rfl) ?_
  rintro _ _ ⟨b2, rfl, rfl⟩
  refine O_qs (q_assign rfl) ?_
  refine O_nil ?_
  refine W_seq ?_
  refine W_reg rfl ?_
  refine O_qs (q_loadN (vs := [_, _, _, _, _, _, _, _, _, _, _]) Try.isAgg44 Try.sizeOf44 rfl (rd_range (by repeat (first | exact List.Mem.head _ | apply List.Mem.tail)) rfl)) ?_
  refine O_qs (q_loadN (vs := HCall.l c) Try.isAgg44 Try.sizeOf44 rfl hc.rds) ?_
  refine O_qs (q_cf Try.call24 rfl (fun wd hwd => (hist_clash _ o c)) (by repeat (first | exact Pick.nil | exact Take.here | apply Pick.cons | apply Take.there))) ?_
  refine O_qs (q_assign rfl) ?_
  refine O_nil ?_
  refine W_ret ?_
  refine res1 (c0 := []) rfl rfl (by repeat (first | exact Pick.nil | exact Take.here | apply Pick.cons | apply Take.there)) rfl ?_
  exact ⟨rfl, rfl⟩

@[reducible] def clashF (cb : Nat) : Value := .func (.func 23) #[] #[ptr cb]

theorem hist_IndexFunc (B : World) (sa : Option Addr) (cap : Nat) (n : Nat) (L : List HCall) (hn : L.length = n) (hb : BaseRow layH B sa L) (hlen : L.length ≤ 9223372036854775807) (c : HCall) (cb : Nat) (hc : BaseCells B cb (HCall.l c)) :
    Ctr Try.prog 31 [.slice sa n cap, clashF cb] B [] (fun u k => ∃ r : Int, (0 ≤ r ↔ L.any (fun o => o.clash c) = true) ∧ u = .int .i64 r ∧ k = []) := by
  subst hn
  refine Ctr.intro (n := 19) Try.func31 rfl Try.ntmps31 (Nat.le_of_ble_eq_true rfl) ?_
  refine W_seq ?_
  refine W_reg rfl ?_
  refine O_qs (q_assign rfl) ?_
  refine O_nil ?_
  refine W_seq ?_
  refine W_seq ?_
  refine W_reg rfl ?_
  refine O_qs (q_move rfl) ?_
  refine O_qs (q_len Try.runUnderlying35 rfl) ?_
  refine O_qs (q_move rfl) ?_
  refine O_nil ?_
  refine W_block ?_
  refine W_loopD (fun (i : Nat) => [(8, .int .i64 (i : Int)), (7, .int .i64 (L.length : Int)), (1, clashF cb), (0, .slice sa L.length cap)]) (fun _ => []) (fun i => L.length - i) (fun i => i ≤ L.length ∧ ∀ j o, j < i → L[j]? = some o → o.clash c = false) 0 ?_ (by repeat (first | exact Sub.nil | refine Sub.cons rfl ?_)) (by repeat (first | exact Pick.nil | exact Take.here | apply Pick.cons | apply Take.there)) ?_
  · exact ⟨Nat.zero_le _, fun j o hj => by omega⟩
  · rintro i ⟨hi, hne⟩
    refine W_seq ?_
    refine W_reg rfl ?_
    refine O_qs (q_lss rfl rfl) ?_
    refine O_nil ?_
    refine W_seq ?_
    refine W_cond rfl ?_ ?_
    · intro hcnd
      have hlt : i < L.length := by simpa using hcnd
      have hL : L[i]? = some L[i] := List.getElem?_eq_getElem hlt
      obtain ⟨b0, o0, rfl⟩ := hb.ptr hlt
      refine W_skip ?_
      refine W_seq ?_
      refine W_block ?_
      refine W_seq ?_
      refine W_reg rfl ?_
      refine O_qs (q_move rfl) ?_
      refine O_qs (q_assign rfl) ?_
      refine O_nil ?_
      refine W_seq ?_
      refine W_reg rfl ?_
      refine O_qs (q_move rfl) ?_
      refine O_qs (q_move rfl) ?_
      refine O_qs (q_move rfl) ?_
      refine O_qs (q_ian Try.runUnderlying35 Try.sizeOf44 rfl rfl hlt) ?_
      refine O_qs (q_loadN (vs := HCall.l L[i]) Try.isAgg44 Try.sizeOf44 rfl (hb.rds hL rfl)) ?_
      refine O_qs (q_call Try.call23 rfl rfl (show _ = [L[i].v, ptr cb] from rfl) (fun wd hwd => (hist_Check1 wd L[i] c cb (hc.still hwd))) (by repeat (first | exact Pick.nil | exact Take.here | apply Pick.cons | apply Take.there))) ?_
      refine O_nil ?_
      refine W_cond rfl ?_ ?_
      · intro ha
        refine W_seq ?_
        refine W_reg rfl ?_
        refine O_qs (q_move rfl) ?_
        refine O_qs (q_assign rfl) ?_
        refine O_nil ?_
        refine W_ret ?_
        refine res1 (c0 := []) rfl rfl (by repeat (first | exact Pick.nil | exact Take.here | apply Pick.cons | apply Take.there)) rfl ?_
        exact ⟨(i : Int), ⟨fun _ => List.any_eq_true.2 ⟨L[i], List.getElem_mem hlt, ha⟩, fun _ => by omega⟩, rfl, rfl⟩
      · intro ha
        refine W_skip ?_
        refine W_reg rfl ?_
        refine O_qs (q_add (c := ((i + 1 : Nat) : Int)) (w64' (by omega) (by omega)) rfl rfl) ?_
        refine O_qs (q_move rfl) ?_
        refine O_nil ?_
        refine ⟨(i + 1), _, ?_, ?_, (by repeat (first | exact Sub.nil | refine Sub.cons rfl ?_)), (by repeat (first | exact Pick.nil | exact Take.here | apply Pick.cons | apply Take.there))⟩
        · refine ⟨hlt, fun j o hj ho => ?_⟩
          by_cases e : j = i
          · subst e
            rw [hL] at ho
            simp only [Option.some.injEq] at ho
            rw [← ho]
            exact ha
          · exact hne j o (by omega) ho
        · omega
    · intro hcnd
      have hil : L.length ≤ i := by simpa using hcnd
      refine W_exit ?_
      refine W_seq ?_
      refine W_reg rfl ?_
      refine O_qs (q_assign rfl) ?_
      refine O_nil ?_
      refine W_ret ?_
      refine res1 (c0 := []) rfl rfl (by repeat (first | exact Pick.nil | exact Take.here | apply Pick.cons | apply Take.there)) rfl ?_
      refine ⟨-1, ⟨fun h => by omega, fun h => ?_⟩, rfl, rfl⟩
      obtain ⟨o, ho, hcl⟩ := List.any_eq_true.1 h
      obtain ⟨j, hj⟩ := List.getElem?_of_mem ho
      have hjl : j < L.length := (List.getElem?_eq_some_iff.1 hj).1
      rw [hne j o (by omega) hj] at hcl
      cases hcl

theorem hist_ContainsFunc (B : World) (sa : Option Addr) (cap : Nat) (n : Nat) (L : List HCall) (hn : L.length = n) (hb : BaseRow layH B sa L) (hlen : L.length ≤ 9223372036854775807) (c : HCall) (cb : Nat) (hc : BaseCells B cb (HCall.l c)) :
    Ctr Try.prog 22 [.slice sa n cap, clashF cb] B [] (fun u k => u = .bool (L.any fun o => o.clash c) ∧ k = []) := by
  refine Ctr.intro (n := 9) Try.func22 rfl Try.ntmps22 (Nat.le_of_ble_eq_true rfl) ?_
  refine W_seq ?_
  refine W_reg rfl ?_
  refine O_qs (q_assign rfl) ?_
  refine O_nil ?_
  refine W_seq ?_
  refine W_reg rfl ?_
  refine O_qs (q_move rfl) ?_
  refine O_qs (q_move rfl) ?_
  refine O_es (e_cf Try.call31 rfl (fun wd hwd => (hist_IndexFunc wd sa cap n L hn (hb.still hwd) hlen c cb (hc.still hwd))) (by repeat (first | exact Pick.nil | exact Take.here | apply Pick.cons | apply Take.there))) ?_
  rintro _ _ ⟨_, ⟨r, hr, rfl, rfl⟩, rfl⟩
  refine O_qs (q_geq rfl rfl) ?_
  refine O_qs (q_assign rfl) ?_
  refine O_nil ?_
  refine W_ret ?_
  refine res1 (c0 := []) rfl rfl (by repeat (first | exact Pick.nil | exact Take.here | apply Pick.cons | apply Take.there)) rfl ?_
  refine ⟨?_, rfl⟩
  congr 1
  rw [Bool.eq_iff_iff]
  simpa using hr

def okAt (L : List HCall) (i : Nat) : Bool := match L[i]? with
  | none => true
  | some c => !(c.bad || (L.take i).any fun o => o.clash c)
/-- The calls can be. -/
def goodL (L : List HCall) : Bool := (List.range L.length).all (okAt L)

theorem hist_Check (B : World) (sa : Option Addr) (n cap : Nat) (L : List HCall) (hn : L.length = n) (hb : BaseRow layH B sa L) (hlen : L.length ≤ 9223372036854775807) (hcap : L.length ≤ cap) :
    Ctr Try.prog 10 [.slice sa n cap] B [] (fun u k => u = .int .i64 (if goodL L then 0 else 4) ∧ k = []) := by
  subst hn
  refine Ctr.intro (n := 22) Try.func10 rfl Try.ntmps10 (Nat.le_of_ble_eq_true rfl) ?_
  refine W_seq ?_
  refine W_reg rfl ?_
  refine O_qs (q_assign rfl) ?_
  refine O_nil ?_
  refine W_seq ?_
  refine W_seq ?_
  refine W_reg rfl ?_
  refine O_qs (q_move rfl) ?_
  refine O_qs (q_len Try.runUnderlying35 rfl) ?_
  refine O_qs (q_move rfl) ?_
  refine O_nil ?_
  refine W_block ?_
  refine W_loopD (fun (i : Nat) => [(7, .int .i64 (i : Int)), (6, .int .i64 (L.length : Int)), (5, .slice sa L.length cap), (0, .slice sa L.length cap)]) (fun _ => []) (fun i => L.length - i) (fun i => i ≤ L.length ∧ ∀ j, j < i → okAt L j = true) 0 ?_ (by repeat (first | exact Sub.nil | refine Sub.cons rfl ?_)) (by repeat (first | exact Pick.nil | exact Take.here | apply Pick.cons | apply Take.there)) ?_
  · exact ⟨Nat.zero_le _, fun j hj => by omega⟩
  · rintro i ⟨hi, hne⟩
    refine W_seq ?_
    refine W_reg rfl ?_
    refine O_qs (q_lss rfl rfl) ?_
    refine O_nil ?_
    refine W_seq ?_
    refine W_cond rfl ?_ ?_
    · intro hcnd
      have hlt : i < L.length := by simpa using hcnd
      have hL : L[i]? = some L[i] := List.getElem?_eq_getElem hlt
      have hok : okAt L i = !(L[i].bad || (L.take i).any fun o => o.clash L[i]) := by unfold okAt; rw [hL]
      obtain ⟨b0, o0, rfl⟩ := hb.ptr hlt
      refine W_skip ?_
      refine W_seq ?_
      refine W_block ?_
      refine W_seq ?_
      refine W_reg rfl ?_
      refine O_qs (q_move rfl) ?_
      refine O_qs (q_ian Try.runUnderlying35 Try.sizeOf44 rfl rfl hlt) ?_
      refine O_qs (q_loadN (vs := HCall.l L[i]) Try.isAgg44 Try.sizeOf44 rfl (hb.rds hL rfl)) ?_
      refine O_es (e_alloc (cs := #[.int .i64 0, .int .i64 0, .int .i64 0, .int .u64 0, .int .u64 0, .int .i64 0, .int .i64 0, .int .i64 0, .int .i64 0, .bool false, .int .u64 0]) Try.zeroValue44 rfl) ?_
      rintro _ _ ⟨b4, rfl, rfl⟩
      refine O_qs (q_assign rfl) ?_
      refine O_en (e_storeN (vs := [_, _, _, _, _, _, _, _, _, _, _]) Try.sizeOf44 rfl rfl rfl (by repeat (first | exact Upd.here | apply Upd.there)) rfl (by simp only [setAll, List.setIfInBounds_toArray, List.set_cons_succ, List.set_cons_zero, Nat.reduceAdd, Nat.zero_add] <;> rfl)) ?_
      rintro _ _ ⟨rfl, rfl⟩
      refine O_nil ?_
      refine W_seq ?_
      refine W_reg rfl ?_
      refine O_qs (q_loadN (vs := [_, _, _, _, _, _, _, _, _, _, _]) Try.isAgg44 Try.sizeOf44 rfl (rd_range (by repeat (first | exact List.Mem.head _ | apply List.Mem.tail)) rfl)) ?_
      refine O_qs (q_cf Try.call21 rfl (fun wd hwd => (hist_isBad _ L[i])) (by repeat (first | exact Pick.nil | exact Take.here | apply Pick.cons | apply Take.there))) ?_
      refine O_qs (q_move rfl) ?_
      refine O_qs (QY.cond0 rfl rfl rfl (fun H => q_move rfl)) ?_
      refine O_qs (QY.cond0 rfl rfl rfl (fun H => q_move rfl)) ?_
      refine O_qs (QY.cond0 rfl rfl rfl (fun H => q_slice_hi Try.runUnderlying35 Try.sizeOf44 (gvh rfl H) (gvh rfl H) (by omega))) ?_
      refine O_qs (QY.cond0 rfl rfl rfl (fun H => q_mkF rfl rfl)) ?_
      refine O_qs (QY.cond0 rfl rfl rfl (fun H => q_cf Try.call22 (ev_cons (gvh rfl H) (ev_cons (gvh rfl H) ev_nil)) (fun wd hwd => (hist_ContainsFunc wd (some ⟨b0, o0, none⟩) cap i (L.take i) (by simp; omega) ((hb.take i).still hwd) (by simp; omega) L[i] b4 (base_cells (cs := (HCall.l L[i]).toArray) (by repeat (first | exact List.Mem.head _ | apply List.Mem.tail)) hwd))) (by repeat (first | exact Pick.nil | exact Take.here | apply Pick.cons | apply Take.there)))) ?_
      refine O_qs (q_or rfl rfl rfl) ?_
      refine O_nil ?_
      refine W_cond rfl ?_ ?_
      · intro ha
        refine W_seq ?_
        refine W_reg rfl ?_
        refine O_qs (q_assign rfl) ?_
        refine O_nil ?_
        refine W_ret ?_
        refine res1 (c0 := []) rfl rfl (by repeat (first | exact Pick.nil | exact Take.here | apply Pick.cons | apply Take.there)) rfl ?_
        have hbad : ¬ goodL L = true := by
          intro hg
          have := List.all_eq_true.1 hg i (List.mem_range.2 hlt)
          rw [hok] at this
          simp at this ha
          rcases ha with ha | ⟨o, ho, hcl⟩
          · rw [ha] at this; cases this.1
          · rw [this.2 o ho] at hcl; cases hcl
        rw [if_neg hbad]
        exact ⟨rfl, rfl⟩
      · intro ha
        refine W_skip ?_
        refine W_reg rfl ?_
        refine O_qs (q_add (c := ((i + 1 : Nat) : Int)) (w64' (by omega) (by omega)) rfl rfl) ?_
        refine O_qs (q_move rfl) ?_
        refine O_nil ?_
        refine ⟨(i + 1), _, ?_, ?_, (by repeat (first | exact Sub.nil | refine Sub.cons rfl ?_)), (by repeat (first | exact Pick.nil | exact Take.here | apply Pick.cons | apply Take.there))⟩
        · refine ⟨hlt, fun j hj => ?_⟩
          by_cases e : j = i
          · subst e
            rw [hok]
            simp at ha ⊢
            exact ha
          · exact hne j (by omega)
        · omega
    · intro hcnd
      have hil : L.length ≤ i := by simpa using hcnd
      refine W_exit ?_
      refine W_seq ?_
      refine W_reg rfl ?_
      refine O_qs (q_assign rfl) ?_
      refine O_nil ?_
      refine W_ret ?_
      refine res1 (c0 := []) rfl rfl (by repeat (first | exact Pick.nil | exact Take.here | apply Pick.cons | apply Take.there)) rfl ?_
      have hg : goodL L = true := List.all_eq_true.2 fun j hj => hne j (by have := List.mem_range.1 hj; omega)
      rw [if_pos hg]
      exact ⟨rfl, rfl⟩

def meets (a b : HCall) : Bool := !(a.ahead b) && !(b.ahead a)
def ovN (L : List HCall) : Nat → Nat
  | 0 => 0
  | i + 1 => ovN L i + (match L[i]? with
    | none => 0
    | some a => (L.take i).countP (meets a))

theorem ovN_le (L : List HCall) : ∀ i, ovN L i ≤ i * L.length
  | 0 => Nat.zero_le _
  | i + 1 => by
    have ih := ovN_le L i
    simp only [ovN]
    have h2 : (match L[i]? with
      | none => 0
      | some a => (L.take i).countP (meets a)) ≤ L.length := by
      split
      · omega
      · exact Nat.le_trans List.countP_le_length (by simp; omega)
    rw [Nat.add_mul, Nat.one_mul]
    omega

theorem hist_Overlaps (B : World) (sa : Option Addr) (n cap : Nat) (L : List HCall) (hn : L.length = n) (hb : BaseRow layH B sa L) (hlen : L.length ≤ 1000000) (hcap : L.length ≤ cap) :
    Ctr Try.prog 18 [.slice sa n cap] B [] (fun u k => u = .int .i64 (ovN L L.length : Int) ∧ k = []) := by
  subst hn
  refine Ctr.intro (n := 38) Try.func18 rfl Try.ntmps18 (Nat.le_of_ble_eq_true rfl) ?_
  refine W_seq ?_
  refine W_reg rfl ?_
  refine O_qs (q_assign rfl) ?_
  refine O_nil ?_
  refine W_seq ?_
  refine W_reg rfl ?_
  refine O_qs (q_assign rfl) ?_
  refine O_nil ?_
  refine W_seq ?_
  refine W_seq ?_
  refine W_reg rfl ?_
  refine O_qs (q_move rfl) ?_
  refine O_qs (q_len Try.runUnderlying35 rfl) ?_
  refine O_qs (q_move rfl) ?_
  refine O_nil ?_
  refine W_block ?_
  refine W_loopD (fun (i : Nat) => [(10, .int .i64 (i : Int)), (9, .int .i64 (L.length : Int)), (8, .slice sa L.length cap), (3, .int .i64 (ovN L i : Int)), (0, .slice sa L.length cap)]) (fun _ => []) (fun i => L.length - i) (fun i => i ≤ L.length) 0 ?_ (by repeat (first | exact Sub.nil | refine Sub.cons rfl ?_)) (by repeat (first | exact Pick.nil | exact Take.here | apply Pick.cons | apply Take.there)) ?_
  · exact Nat.zero_le _
  · intro i hi
    refine W_seq ?_
    refine W_reg rfl ?_
    refine O_qs (q_lss rfl rfl) ?_
    refine O_nil ?_
    refine W_seq ?_
    refine W_cond rfl ?_ ?_
    · intro hcnd
      have hlt : i < L.length := by simpa using hcnd
      have hL : L[i]? = some L[i] := List.getElem?_eq_getElem hlt
      obtain ⟨b0, o0, rfl⟩ := hb.ptr hlt
      have hov : ∀ j, j ≤ i → ovN L i + (L.take j).countP (meets L[i]) ≤ 2000000000000 := by
        intro j hj
        have h1 := ovN_le L i
        have h2 : (L.take j).countP (meets L[i]) ≤ L.length := Nat.le_trans List.countP_le_length (by simp; omega)
        have h3 : i * L.length ≤ 1000000 * 1000000 := Nat.mul_le_mul (by omega) hlen
        omega
      refine W_skip ?_
      refine W_seq ?_
      refine W_block ?_
      refine W_seq ?_
      refine W_reg rfl ?_
      refine O_qs (q_move rfl) ?_
      refine O_qs (q_ian Try.runUnderlying35 Try.sizeOf44 rfl rfl hlt) ?_
      refine O_qs (q_loadN (vs := HCall.l L[i]) Try.isAgg44 Try.sizeOf44 rfl (hb.rds hL rfl)) ?_
      refine O_es (e_alloc (cs := #[.int .i64 0, .int .i64 0, .int .i64 0, .int .u64 0, .int .u64 0, .int .i64 0, .int .i64 0, .int .i64 0, .int .i64 0, .bool false, .int .u64 0]) Try.zeroValue44 rfl) ?_
      rintro _ _ ⟨b5, rfl, rfl⟩
      refine O_qs (q_assign rfl) ?_
      refine O_en (e_storeN (vs := [_, _, _, _, _, _, _, _, _, _, _]) Try.sizeOf44 rfl rfl rfl (by repeat (first | exact Upd.here | apply Upd.there)) rfl (by simp only [setAll, List.setIfInBounds_toArray, List.set_cons_succ, List.set_cons_zero, Nat.reduceAdd, Nat.zero_add] <;> rfl)) ?_
      rintro _ _ ⟨rfl, rfl⟩
      refine O_nil ?_
      refine W_seq ?_
      refine W_reg rfl ?_
      refine O_qs (q_move rfl) ?_
      refine O_qs (q_move rfl) ?_
      refine O_qs (q_slice_hi Try.runUnderlying35 Try.sizeOf44 rfl rfl (by omega)) ?_
      refine O_qs (q_len Try.runUnderlying35 rfl) ?_
      refine O_qs (q_move rfl) ?_
      refine O_nil ?_
      refine W_block ?_
      refine W_loopD (fun (j : Nat) => [(19, .int .i64 (j : Int)), (18, .int .i64 (i : Int)), (17, .slice (some ⟨b0, o0, none⟩) i cap), (5, ptr b5), (10, .int .i64 (i : Int)), (9, .int .i64 (L.length : Int)), (8, .slice (some ⟨b0, o0, none⟩) L.length cap), (3, .int .i64 ((ovN L i + (L.take j).countP (meets L[i]) : Nat) : Int)), (0, .slice (some ⟨b0, o0, none⟩) L.length cap)]) (fun _ => [[(b5, .cells (HCall.l L[i]).toArray 44 (0, 0))]]) (fun j => i - j) (fun j => j ≤ i) 0 ?_ (by repeat (first | exact Sub.nil | refine Sub.cons rfl ?_)) (by repeat (first | exact Pick.nil | exact Take.here | apply Pick.cons | apply Take.there)) ?_
      · exact Nat.zero_le _
      · intro j hj
        refine W_seq ?_
        refine W_reg rfl ?_
        refine O_qs (q_lss rfl rfl) ?_
        refine O_nil ?_
        refine W_seq ?_
        refine W_cond rfl ?_ ?_
        · intro hcj
          have hji : j < i := by simpa using hcj
          have hjl : j < L.length := by omega
          have hJ : L[j]? = some L[j] := List.getElem?_eq_getElem hjl
          have hcount : (L.take (j + 1)).countP (meets L[i]) = (L.take j).countP (meets L[i]) + (if meets L[i] L[j] then 1 else 0) := by
            rw [List.take_add_one, hJ]
            simp only [Option.toList_some, List.countP_append, List.countP_cons, List.countP_nil, Nat.zero_add]
          have hb1 := hov (j + 1) hji
          refine W_skip ?_
          refine W_seq ?_
          refine W_block ?_
          refine W_seq ?_
          refine W_reg rfl ?_
          refine O_qs (q_ian Try.runUnderlying35 Try.sizeOf44 rfl rfl hji) ?_
          refine O_qs (q_loadN (vs := HCall.l L[j]) Try.isAgg44 Try.sizeOf44 rfl (hb.rds hJ rfl)) ?_
          refine O_es (e_alloc (cs := #[.int .i64 0, .int .i64 0, .int .i64 0, .int .u64 0, .int .u64 0, .int .i64 0, .int .i64 0, .int .i64 0, .int .i64 0, .bool false, .int .u64 0]) Try.zeroValue44 rfl) ?_
          rintro _ _ ⟨b7, rfl, rfl⟩
          refine O_en (e_storeN (vs := [_, _, _, _, _, _, _, _, _, _, _]) Try.sizeOf44 rfl rfl rfl (by repeat (first | exact Upd.here | apply Upd.there)) rfl (by simp only [setAll, List.setIfInBounds_toArray, List.set_cons_succ, List.set_cons_zero, Nat.reduceAdd, Nat.zero_add] <;> rfl)) ?_
          rintro _ _ ⟨rfl, rfl⟩
          refine O_nil ?_
          refine W_seq ?_
          refine W_reg rfl ?_
          refine O_qs (q_loadN (vs := [_, _, _, _, _, _, _, _, _, _, _]) Try.isAgg44 Try.sizeOf44 rfl (rd_range (by repeat (first | exact List.Mem.head _ | apply List.Mem.tail)) rfl)) ?_
          refine O_qs (q_loadN (vs := [_, _, _, _, _, _, _, _, _, _, _]) Try.isAgg44 Try.sizeOf44 rfl (rd_range (by repeat (first | exact List.Mem.head _ | apply List.Mem.tail)) rfl)) ?_
          refine O_qs (q_cf Try.call11 rfl (fun wd hwd => (hist_Ahead _ L[i] L[j])) (by repeat (first | exact Pick.nil | exact Take.here | apply Pick.cons | apply Take.there))) ?_
          refine O_qs (q_not rfl) ?_
          refine O_qs (q_move rfl) ?_
          refine O_qs (QY.cond0 rfl rfl rfl (fun H => q_loadN (vs := [_, _, _, _, _, _, _, _, _, _, _]) Try.isAgg44 Try.sizeOf44 rfl (rd_range (by repeat (first | exact List.Mem.head _ | apply List.Mem.tail)) rfl))) ?_
          refine O_qs (QY.cond0 rfl rfl rfl (fun H => q_loadN (vs := [_, _, _, _, _, _, _, _, _, _, _]) Try.isAgg44 Try.sizeOf44 rfl (rd_range (by repeat (first | exact List.Mem.head _ | apply List.Mem.tail)) rfl))) ?_
          refine O_qs (QY.cond0 rfl rfl rfl (fun H => q_cf Try.call11 (ev_cons (gvh rfl H) (ev_cons (gvh rfl H) ev_nil)) (fun wd hwd => (hist_Ahead _ L[j] L[i])) (by repeat (first | exact Pick.nil | exact Take.here | apply Pick.cons | apply Take.there)))) ?_
          refine O_qs (QY.cond0 rfl rfl rfl (fun H => q_not (gvh rfl H))) ?_
          refine O_qs (q_and rfl rfl rfl) ?_
          refine O_nil ?_
          refine W_cond rfl ?_ ?_
          · intro hc
            have hm : meets L[i] L[j] = true := by simpa [meets] using hc
            rw [if_pos hm] at hcount
            rw [hcount] at hb1
            refine W_reg rfl ?_
            refine O_qs (q_move rfl) ?_
            refine O_qs (q_add (c := ((ovN L i + (L.take (j + 1)).countP (meets L[i]) : Nat) : Int)) (w64' (by rw [hcount]; omega) (by rw [hcount]; omega)) rfl rfl) ?_
            refine O_qs (q_assign rfl) ?_
            refine O_nil ?_
            refine W_reg rfl ?_
            refine O_qs (q_add (c := ((j + 1 : Nat) : Int)) (w64' (by omega) (by omega)) rfl rfl) ?_
            refine O_qs (q_move rfl) ?_
            refine O_nil ?_
            refine ⟨(j + 1), _, ?_, ?_, (by repeat (first | exact Sub.nil | refine Sub.cons rfl ?_)), (by repeat (first | exact Pick.nil | exact Take.here | apply Pick.cons | apply Take.there))⟩
            · exact hji
            · omega
          · intro hc
            have hm : ¬ meets L[i] L[j] = true := by simpa [meets] using hc
            have hc0 : (L.take (j + 1)).countP (meets L[i]) = (L.take j).countP (meets L[i]) := by rw [hcount, if_neg hm]; rfl
            rw [← hc0]
            refine W_skip ?_
            refine W_reg rfl ?_
            refine O_qs (q_add (c := ((j + 1 : Nat) : Int)) (w64' (by omega) (by omega)) rfl rfl) ?_
            refine O_qs (q_move rfl) ?_
            refine O_nil ?_
            refine ⟨(j + 1), _, ?_, ?_, (by repeat (first | exact Sub.nil | refine Sub.cons rfl ?_)), (by repeat (first | exact Pick.nil | exact Take.here | apply Pick.cons | apply Take.there))⟩
            · exact hji
            · omega
        · intro hcj
          have hji : j = i := by simp at hcj; omega
          subst hji
          have hst : ovN L j + (L.take j).countP (meets L[j]) = ovN L (j + 1) := by simp only [ovN, hL]
          rw [hst]
          refine W_exit ?_
          refine W_reg rfl ?_
          refine O_qs (q_add (c := ((j + 1 : Nat) : Int)) (w64' (by omega) (by omega)) rfl rfl) ?_
          refine O_qs (q_move rfl) ?_
          refine O_nil ?_
          refine ⟨(j + 1), _, ?_, ?_, (by repeat (first | exact Sub.nil | refine Sub.cons rfl ?_)), (by repeat (first | exact Pick.nil | exact Take.here | apply Pick.cons | apply Take.there))⟩
          · exact hlt
          · omega
    · intro hcnd
      have hil : i = L.length := by simp at hcnd; omega
      subst hil
      refine W_exit ?_
      refine W_seq ?_
      refine W_reg rfl ?_
      refine O_qs (q_move rfl) ?_
      refine O_qs (q_assign rfl) ?_
      refine O_nil ?_
      refine W_ret ?_
      refine res1 (c0 := []) rfl rfl (by repeat (first | exact Pick.nil | exact Take.here | apply Pick.cons | apply Take.there)) rfl ?_
      exact ⟨rfl, rfl⟩
end Go.Proofs.Ytolcdmbjddekeaa
