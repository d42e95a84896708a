/-
  Walks: the document's calls out of events.
-/
import Derived.Test.YtolcdmbjddekeaaH6
set_option linter.unusedSimpArgs false
set_option linter.unusedVariables false
namespace Go.Proofs.Ytolcdmbjddekeaa
open Go Go.SL

@[reducible] def HEv.l2 (e : HEv) : List Value := [.int .i64 e.thread, .bool e.idle, .int .i64 e.op.kind, .int .u64 e.op.key, .int .u64 e.op.val, .int .i64 e.op.level, .int .i64 e.at_, .bool e.began, .bool e.over, .int .i64 e.ans.err, .bool e.ans.done, .int .u64 e.ans.val]
def layV2 : Lay HEv where
  enc := HEv.l2
  size := 12
  pos := by decide
  len := fun _ => rfl
  one := by
    intro a u h
    simp only [HEv.l2, List.mem_cons, List.not_mem_nil, or_false] at h
    rcases h with rfl | rfl | rfl | rfl | rfl | rfl | rfl | rfl | rfl | rfl | rfl | rfl <;> rfl

theorem ap_R {B : World} {own : List Nat} {n : Nat} {all : Array Oper} {env : Env} {ctx : Ctx} {dst : Option Tmp} {ty : TypeId} {pos : String} {aft : Array Edge} {x y : Operand} {A : Atom} {v u : Value} {L N : List HCall} {c' : Atom → Ctx}
    (hA : Row layH 42 A v L) (hm : ∀ A', Upd ctx A A' (c' A')) (hx : evalO env x = some v) (hy : evalO env y = some u) (hs : Src ⟨Try.prog, B, own, n⟩ ctx u N.length (layH.all N)) (hl : L.length + N.length ≤ 1000000000) :
    EY ⟨Try.prog, B, own, n⟩ all ⟨dst, .call ⟨.builtin .append, #[x, y], #[38, 38]⟩, ty, pos, aft, none⟩ env ctx (fun v' c => ∃ A', Row layH 42 A' v' (L ++ N) ∧ c = c' A') :=
  e_append (Y := layH) (i := Try.t42) (bytes := 88) Try.underlying38 (by kernel_rfl) rfl rfl rfl rfl hA hm hx hy hs (by omega) (by simp only [maxLen]; omega)

/-- The map of threads says where their open calls stand. -/
def OnRel (cs : List HCall) (on : List (Int × Int)) : Prop := ∀ th i, mget on th = some i ↔ ∃ n : Nat, (n : Int) = i ∧ ∃ c, cs[n]? = some c ∧ c.thread = th ∧ c.to_ = -1

def isOpn (th : Int) (c : HCall) : Bool := decide (c.thread = th) && decide (c.to_ = -1)
def lastOpen (cs : List HCall) (th : Int) : Nat → Int
  | 0 => -1
  | k + 1 => match cs[k]? with
    | none => lastOpen cs th k
    | some c => if isOpn th c then (k : Int) else lastOpen cs th k

theorem lastOpen_eq {cs : List HCall} {on : List (Int × Int)} (h : OnRel cs on) (th : Int) : lastOpen cs th cs.length = (mget on th).getD (-1) := by
  cases hg : mget on th with
  | none =>
    have hno : ∀ k, lastOpen cs th k = -1 := by
      intro k
      induction k with
      | zero => rfl
      | succ k ih =>
        unfold lastOpen
        cases hc : cs[k]? with
        | none => exact ih
        | some c =>
          simp only
          rw [if_neg]
          · exact ih
          · intro ho
            simp [isOpn] at ho
            have := (h th (k : Int)).2 ⟨k, rfl, c, hc, ho.1, ho.2⟩
            rw [hg] at this
            cases this
    exact hno _
  | some i =>
    obtain ⟨n, hn, c, hc, h1, h2⟩ := (h th i).1 hg
    have hlt : n < cs.length := (List.getElem?_eq_some_iff.1 hc).1
    have key : ∀ k, n < k → lastOpen cs th k = i := by
      intro k
      induction k with
      | zero => intro hk; omega
      | succ k ih =>
        intro hk
        unfold lastOpen
        cases hck : cs[k]? with
        | none =>
          simp only
          refine ih ?_
          rcases Nat.lt_or_ge n k with h' | h'
          · exact h'
          · have : n = k := by omega
            subst this
            rw [hc] at hck; cases hck
        | some d =>
          simp only
          split
          · rename_i ho
            simp [isOpn] at ho
            have := (h th (k : Int)).2 ⟨k, rfl, d, hck, ho.1, ho.2⟩
            rw [hg] at this
            exact (Option.some.inj this).symm
          · rename_i ho
            rcases Nat.lt_or_ge n k with h' | h'
            · exact ih h'
            · have : n = k := by omega
              subst this
              rw [hc] at hck
              obtain rfl := Option.some.inj hck
              exact absurd (by simp [isOpn, h1, h2]) ho
    exact key _ hlt

theorem OnRel.new {cs : List HCall} {on : List (Int × Int)} {e : HEv} {t : Int} (h : OnRel cs on) (hno : mget on e.thread = none) : OnRel (cs ++ [newCall e t]) (mput on e.thread (cs.length : Int)) := by
  intro th i
  rw [mget_put]
  constructor
  · intro hg
    split at hg
    · rename_i hth
      simp only [Option.some.injEq] at hg
      exact ⟨cs.length, hg, newCall e t, by simp, by simp [newCall, hth], rfl⟩
    · obtain ⟨n, hn, c, hc, h1, h2⟩ := (h th i).1 hg
      have hlt : n < cs.length := (List.getElem?_eq_some_iff.1 hc).1
      exact ⟨n, hn, c, by rw [List.getElem?_append_left hlt]; exact hc, h1, h2⟩
  · rintro ⟨n, hn, c, hc, h1, h2⟩
    rcases Nat.lt_or_ge n cs.length with hlt | hge
    · rw [List.getElem?_append_left hlt] at hc
      have := (h th i).2 ⟨n, hn, c, hc, h1, h2⟩
      split
      · rename_i hth
        rw [hth, hno] at this
        cases this
      · exact this
    · rw [List.getElem?_append_right hge] at hc
      have hz : n - cs.length = 0 := by
        rcases Nat.eq_zero_or_pos (n - cs.length) with h' | h'
        · exact h'
        · rw [List.getElem?_eq_none (by simp; omega)] at hc; cases hc
      rw [hz] at hc
      simp at hc
      subst hc
      have : th = e.thread := h1.symm
      rw [if_pos this, ← hn]
      congr 1
      omega

theorem OnRel.close {cs : List HCall} {on : List (Int × Int)} {n : Nat} {c : HCall} {th t : Int} {a : Ans} (h : OnRel cs on) (hk : Keys on) (hg : mget on th = some (n : Int)) (hc : cs[n]? = some c) (ht : 0 ≤ t) : OnRel (cs.set n { c with to_ := t, ans := a }) (mdel on th) := by
  obtain ⟨n', hn', c', hc', g1, g2⟩ := (h th (n : Int)).1 hg
  have hnn : n' = n := by omega
  subst hnn
  rw [hc] at hc'
  obtain rfl := Option.some.inj hc'
  have hlt : n' < cs.length := (List.getElem?_eq_some_iff.1 hc).1
  intro th2 i
  rw [mget_del on hk]
  constructor
  · intro h2
    split at h2
    · cases h2
    · rename_i hne
      obtain ⟨m, hm, d, hd, k1, k2⟩ := (h th2 i).1 h2
      refine ⟨m, hm, d, ?_, k1, k2⟩
      rw [List.getElem?_set]
      rw [if_neg]
      · exact hd
      · intro e
        subst e
        rw [hc] at hd
        obtain rfl := Option.some.inj hd
        exact hne (k1.symm.trans g1)
  · rintro ⟨m, hm, d, hd, k1, k2⟩
    by_cases hne : n' = m
    · subst hne
      rw [List.getElem?_set_self hlt] at hd
      obtain rfl := Option.some.inj hd
      simp at k2
      omega
    · rw [List.getElem?_set_ne hne] at hd
      have h3 := (h th2 i).2 ⟨m, hm, d, hd, k1, k2⟩
      split
      · rename_i hth
        rw [hth, hg] at h3
        simp only [Option.some.injEq] at h3
        omega
      · exact h3

theorem finF_rel {cs cs' : List HCall} {on on' : List (Int × Int)} {n : Nat} {e : HEv} {t : Int} (h : OnRel cs on) (hk : Keys on) (hg : mget on e.thread = some (n : Int)) (ht : 0 ≤ t) (hf : finF cs on n e t = some (cs', on')) : OnRel cs' on' := by
  unfold finF at hf
  split at hf
  · cases hf
  · rename_i c hc
    split at hf
    · split at hf
      · simp only [Option.some.injEq, Prod.mk.injEq] at hf
        obtain ⟨rfl, rfl⟩ := hf
        exact h.close hk hg hc ht
      · simp only [Option.some.injEq, Prod.mk.injEq] at hf
        obtain ⟨rfl, rfl⟩ := hf
        exact h
    · cases hf

theorem ref24_Of (B : World) (N : Atom) (u0 : Value) (L : List HEv) (hN : Row layV2 34 N u0 L) (hlen : L.length ≤ 100000) :
    Ctr Try.prog 8 [u0] B [N]
      (fun u k => (ofF L 0 [] [] = none ∧ u = .tuple #[.slice none 0 0, .bool false] ∧ k = [N]) ∨ (∃ cs v R, ofF L 0 [] [] = some cs ∧ Row layH 42 R v cs ∧ u = .tuple #[v, .bool true] ∧ k = [N, R])) := by
  have hlen0 : ∃ a cap, u0 = .slice a L.length cap := hN.len
  obtain ⟨sa, cap, rfl⟩ := hlen0
  refine Ctr.intro (n := 109) Try.func8 rfl Try.ntmps8 (Nat.le_of_ble_eq_true rfl) ?_
  refine W_seq ?_
  refine W_reg rfl ?_
  refine O_qs (q_assign rfl) ?_
  refine O_qs (q_assign rfl) ?_
  refine O_nil ?_
  refine W_seq ?_
  refine W_reg rfl ?_
  refine O_es (e_bslice (zl := []) (cs := []) Try.runUnderlying38 Try.sizeOf42 Try.zeroValue42 rfl (by kernel_rfl) rfl rfl) ?_
  rintro _ _ ⟨b9, rfl, rfl⟩
  refine O_qs (q_assign rfl) ?_
  refine O_nil ?_
  refine W_seq ?_
  refine W_seq ?_
  refine W_reg rfl ?_
  refine O_qs (q_assign rfl) ?_
  refine O_nil ?_
  refine W_block ?_
  refine W_loopD (fun (d : (Nat × Option Addr × Nat × Atom) × List HCall × List (Int × Int)) => [(5, .int .i64 (d.1.1 : Int)), (4, .slice d.1.2.1 d.2.1.length d.1.2.2.1), (0, .slice sa L.length cap)]) (fun ((_, _, _, R), _, _) => [R, N]) (fun d => L.length - d.1.1) (fun ((i, a2, c2, R), cs, on) => i ≤ L.length ∧ cs.length ≤ i ∧ Row layH 42 R (.slice a2 cs.length c2) cs ∧ OnRel cs on ∧ OnOk cs on ∧ ofF L 0 [] [] = ofF (L.drop i) i cs on) ((0, some ⟨b9, 0, none⟩, 0, [(b9, .cells #[] 42 (0, 0))]), [], []) ?_ (by repeat (first | exact Sub.nil | refine Sub.cons rfl ?_)) (by repeat (first | exact Pick.nil | exact Take.here | apply Pick.cons | apply Take.there)) ?_
  · refine ⟨Nat.zero_le _, Nat.le_refl _, .inr ⟨b9, 0, #[], rfl, rfl, Nat.le_refl _, by decide, by simp, by simp [Lay.all]⟩, ?_, ⟨List.nodup_nil, (fun k i h => by cases h)⟩, rfl⟩
    intro th i
    constructor
    · intro h; cases h
    · rintro ⟨n, _, c, hc, _⟩; simp at hc
  · rintro ⟨⟨i, a2, c2, R⟩, cs, on⟩ ⟨hi, hcl, hR, hrel, hok, htot⟩
    dsimp only at hi hcl hR hrel hok htot ⊢
    refine W_seq ?_
    refine W_seq ?_
    refine W_reg rfl ?_
    refine O_qs (q_move rfl) ?_
    refine O_qs (q_move rfl) ?_
    refine O_qs (q_len Try.runUnderlying24 rfl) ?_
    refine O_qs (q_lss rfl rfl) ?_
    refine O_nil ?_
    refine W_cond rfl ?_ ?_
    · intro hcnd
      have hlt : i < L.length := by simpa using hcnd
      obtain ⟨g, gc, e1⟩ := hN.ptr (by omega)
      simp only [Value.slice.injEq, true_and] at e1
      obtain ⟨rfl, rfl⟩ := e1
      have hV : L[i]? = some L[i] := List.getElem?_eq_getElem hlt
      have hstep := ofF_drop (cs := cs) (on := on) hV
      rw [← htot] at hstep
      generalize L[i] = e at hV hstep
      refine W_skip ?_
      refine W_seq ?_
      refine W_block ?_
      refine W_seq ?_
      refine W_reg rfl ?_
      refine O_qs (q_move rfl) ?_
      refine O_qs (q_move rfl) ?_
      refine O_qs (q_ian Try.runUnderlying24 Try.sizeOf34 rfl rfl hlt) ?_
      refine O_qs (q_loadN (vs := HEv.l2 e) Try.isAgg34 Try.sizeOf34 rfl (hN.rds (by repeat (first | exact List.Mem.head _ | apply List.Mem.tail)) hV (by show 0 + i * 12 = _; simp [layV2]))) ?_
      refine O_es (e_alloc (cs := #[.int .i64 0, .bool false, .int .i64 0, .int .u64 0, .int .u64 0, .int .i64 0, .int .i64 0, .bool false, .bool false, .int .i64 0, .bool false, .int .u64 0]) Try.zeroValue34 rfl) ?_
      rintro _ _ ⟨b6, rfl, rfl⟩
      refine O_en (e_storeN (vs := [_, _, _, _, _, _, _, _, _, _, _, _]) Try.sizeOf34 rfl rfl rfl (by repeat (first | exact Upd.here | apply Upd.there)) rfl (by simp only [setAll, List.setIfInBounds_toArray, List.set_cons_succ, List.set_cons_zero, Nat.reduceAdd, Nat.zero_add] <;> rfl)) ?_
      rintro _ _ ⟨rfl, rfl⟩
      refine O_nil ?_
      refine W_seq ?_
      refine W_seq ?_
      refine W_reg rfl ?_
      refine O_qs (q_fa fa_34_1 rfl) ?_
      refine O_qs (q_load Try.isAgg4 rfl (rd_chunk (by repeat (first | exact List.Mem.head _ | apply List.Mem.tail)) rfl)) ?_
      refine O_nil ?_
      refine W_cond rfl ?_ ?_
      · intro hid
        have hid' : e.idle = true := hid
        rw [if_pos hid'] at hstep
        refine W_exit ?_
        refine W_reg rfl ?_
        refine O_qs (q_move rfl) ?_
        refine O_qs (q_add (c := ((i + 1 : Nat) : Int)) (w64' (by omega) (by omega)) rfl rfl) ?_
        refine O_qs (q_assign rfl) ?_
        refine O_nil ?_
        refine ⟨((i + 1, a2, c2, R), cs, on), _, ?_, ?_, (by repeat (first | exact Sub.nil | refine Sub.cons rfl ?_)), (by repeat (first | exact Pick.nil | exact Take.here | apply Pick.cons | apply Take.there))⟩
        · exact ⟨hlt, Nat.le_succ_of_le hcl, hR, hrel, hok, hstep⟩
        · dsimp only; omega
      · intro hid
        have hid' : ¬ e.idle = true := by simpa using hid
        rw [if_neg hid'] at hstep
        have hlo := lastOpen_eq hrel e.thread
        refine W_skip ?_
        refine W_seq ?_
        refine W_reg rfl ?_
        refine O_qs (q_assign rfl) ?_
        refine O_nil ?_
        refine W_seq ?_
        refine W_seq ?_
        refine W_reg rfl ?_
        refine O_qs (q_assign rfl) ?_
        refine O_nil ?_
        refine W_block ?_
        refine W_loopD (fun (k : Nat) => [(8, .int .i64 (k : Int)), (7, .int .i64 (lastOpen cs e.thread k)), (6, ptr b6), (5, .int .i64 (i : Int)), (4, .slice a2 cs.length c2), (0, .slice (some ⟨g, 0, none⟩) L.length cap)]) (fun _ => [[(b6, .cells (HEv.l2 e).toArray 34 (0, 0))], R, N]) (fun k => cs.length - k) (fun k => k ≤ cs.length) 0 ?_ (by repeat (first | exact Sub.nil | refine Sub.cons rfl ?_)) (by repeat (first | exact Pick.nil | exact Take.here | apply Pick.cons | apply Take.there)) ?_
        · exact Nat.zero_le _
        · intro k hk
          refine W_seq ?_
          refine W_seq ?_
          refine W_reg rfl ?_
          refine O_qs (q_move rfl) ?_
          refine O_qs (q_move rfl) ?_
          refine O_qs (q_len Try.runUnderlying38 rfl) ?_
          refine O_qs (q_lss rfl rfl) ?_
          refine O_nil ?_
          refine W_cond rfl ?_ ?_
          · intro hck
            have hkl : k < cs.length := by simpa using hck
            obtain ⟨g2, gc2, e2⟩ := hR.ptr (by omega)
            simp only [Value.slice.injEq, true_and] at e2
            obtain ⟨rfl, rfl⟩ := e2
            have hC : cs[k]? = some cs[k] := List.getElem?_eq_getElem hkl
            have hls : lastOpen cs e.thread (k + 1) = if isOpn e.thread cs[k] then (k : Int) else lastOpen cs e.thread k := by
              conv => lhs; unfold lastOpen
              rw [hC]
            generalize cs[k] = c at hC hls
            refine W_skip ?_
            refine W_seq ?_
            refine W_block ?_
            refine W_seq ?_
            refine W_draw [[], [], [0, 1], [0, 1, 2], [0, 1, 2, 3], [], [5], [0, 1, 2, 3, 4, 5, 6], [0, 1, 2, 3, 4, 5, 6, 7], [0, 1, 2, 3, 4, 5, 6, 7, 8], [0, 1, 2, 3, 4, 5, 6, 7, 8], [0, 1, 2, 3, 4, 5, 6, 7, 8, 9, 10], [0, 1, 2, 3, 4, 5, 6, 7, 8, 9, 10, 11], [0, 1, 2, 3, 4, 5, 6, 7, 8, 9, 10, 11, 12], [0, 1, 2, 3, 4, 5, 6, 7, 8, 9, 10, 11, 12, 13], [0, 1, 2, 3, 4, 5, 6, 7, 8, 9, 10, 11, 12, 13, 14]] rfl rfl rfl ?_
            refine V.qs 0 rfl rfl (q_move rfl) ?_
            refine V.qs 1 rfl rfl (q_move rfl) ?_
            refine V.qs 2 rfl rfl (q_ian Try.runUnderlying38 Try.sizeOf42 rfl rfl hkl) ?_
            refine V.qs 3 rfl rfl (q_fa fa_42_0 rfl) ?_
            refine V.qs 4 rfl rfl (q_load Try.isAgg3 rfl (hR.rd (by repeat (first | exact List.Mem.head _ | apply List.Mem.tail)) hC (j := 0) rfl (by show 0 + k * 11 + 0 = _; simp [layH]))) ?_
            refine V.qs 5 rfl rfl (q_fa fa_34_0 rfl) ?_
            refine V.qs 6 rfl rfl (q_load Try.isAgg3 rfl (rd_chunk (by repeat (first | exact List.Mem.head _ | apply List.Mem.tail)) rfl)) ?_
            refine V.qs 7 rfl rfl (q_eql rfl rfl) ?_
            refine V.qs 8 rfl rfl (q_move rfl) ?_
            refine V.qs 9 rfl rfl (QY.cond0 rfl rfl rfl (fun H => q_move rfl)) ?_
            refine V.qs 10 rfl rfl (QY.cond0 rfl rfl rfl (fun H => q_move rfl)) ?_
            refine V.qs 11 rfl rfl (QY.cond0 rfl rfl rfl (fun H => q_ian Try.runUnderlying38 Try.sizeOf42 (gvh rfl H) (gvh rfl H) hkl)) ?_
            refine V.qs 12 rfl rfl (QY.cond0 rfl rfl rfl (fun H => q_fa fa_42_4 (gvh rfl H))) ?_
            refine V.qs 13 rfl rfl (QY.cond0 rfl rfl rfl (fun H => q_load Try.isAgg3 (gvh rfl H) (hR.rd (by repeat (first | exact List.Mem.head _ | apply List.Mem.tail)) hC (j := 7) rfl (by show 0 + k * 11 + 7 = _; simp [layH])))) ?_
            refine V.qs 14 rfl rfl (QY.cond0 rfl rfl rfl (fun H => q_eql (gvh rfl H) rfl)) ?_
            refine V.qs 15 rfl rfl (q_and rfl rfl rfl) ?_
            refine V.fin rfl ?_
            refine W_cond rfl ?_ ?_
            · intro hm
              have hm' : isOpn e.thread c = true := by simpa [isOpn] using hm
              rw [if_pos hm'] at hls
              refine W_reg rfl ?_
              refine O_qs (q_move rfl) ?_
              refine O_qs (q_assign rfl) ?_
              refine O_nil ?_
              refine W_reg rfl ?_
              refine O_qs (q_move rfl) ?_
              refine O_qs (q_add (c := ((k + 1 : Nat) : Int)) (w64' (by omega) (by omega)) rfl rfl) ?_
              refine O_qs (q_assign rfl) ?_
              refine O_nil ?_
              rw [← hls]
              refine ⟨(k + 1), _, ?_, ?_, (by repeat (first | exact Sub.nil | refine Sub.cons rfl ?_)), (by repeat (first | exact Pick.nil | exact Take.here | apply Pick.cons | apply Take.there))⟩
              · exact hkl
              · omega
            · intro hm
              have hm' : ¬ isOpn e.thread c = true := by
                intro h
                simp [isOpn] at h
                simp [h] at hm
              rw [if_neg hm'] at hls
              rw [← hls]
              refine W_skip ?_
              refine W_reg rfl ?_
              refine O_qs (q_move rfl) ?_
              refine O_qs (q_add (c := ((k + 1 : Nat) : Int)) (w64' (by omega) (by omega)) rfl rfl) ?_
              refine O_qs (q_assign rfl) ?_
              refine O_nil ?_
              refine ⟨(k + 1), _, ?_, ?_, (by repeat (first | exact Sub.nil | refine Sub.cons rfl ?_)), (by repeat (first | exact Pick.nil | exact Take.here | apply Pick.cons | apply Take.there))⟩
              · exact hkl
              · omega
          · intro hck
            have hkl : k = cs.length := by simp at hck; omega
            subst hkl
            have hdec : decide ((mget on e.thread).getD (-1) = -1) = !(mget on e.thread).isSome := by
              cases hg : mget on e.thread with
              | none => rfl
              | some q =>
                have := (hok.2 _ _ hg).1
                simp
                omega
            refine W_exit ?_
            refine W_seq ?_
            refine W_seq ?_
            refine W_reg rfl ?_
            refine O_qs (q_fa fa_34_4 rfl) ?_
            refine O_qs (q_load Try.isAgg4 rfl (rd_chunk (by repeat (first | exact List.Mem.head _ | apply List.Mem.tail)) rfl)) ?_
            refine O_qs (q_move rfl) ?_
            refine O_qs (q_eql rfl rfl) ?_
            refine O_qs (q_neb Try.runUnderlying4 rfl rfl) ?_
            refine O_nil ?_
            rw [hlo, hdec]
            refine W_cond rfl ?_ ?_
            · intro hb
              have hb' : e.began = (mget on e.thread).isSome := by
                revert hb
                cases e.began <;> cases (mget on e.thread).isSome <;> simp
              refine W_seq ?_
              refine W_reg rfl ?_
              refine O_qs (q_assign rfl) ?_
              refine O_qs (q_assign rfl) ?_
              refine O_nil ?_
              refine W_ret ?_
              refine res2 (c0 := [N]) rfl rfl rfl (by repeat (first | exact Pick.nil | exact Take.here | apply Pick.cons | apply Take.there)) rfl ?_
              refine .inl ⟨?_, rfl, rfl⟩
              rw [hstep]
              unfold seeF
              rw [if_pos hb']
            · intro hb
              have hb' : ¬ e.began = (mget on e.thread).isSome := by
                revert hb
                cases e.began <;> cases (mget on e.thread).isSome <;> simp
              refine W_skip ?_
              refine W_seq ?_
              refine W_seq ?_
              refine W_reg rfl ?_
              refine O_qs (q_move rfl) ?_
              refine O_qs (q_eql rfl rfl) ?_
              refine O_nil ?_
              rw [hdec]
              refine W_cut (fun (d : (Nat × Option Addr × Nat × Atom) × List HCall × List (Int × Int)) => [(7, .int .i64 (d.1.1 : Int)), (6, ptr b6), (5, .int .i64 (i : Int)), (4, .slice d.1.2.1 d.2.1.length d.1.2.2.1), (0, .slice (some ⟨g, 0, none⟩) L.length cap)]) (fun ((_, _, _, R), _, _) => [[(b6, .cells (HEv.l2 e).toArray 34 (0, 0))], R, N]) (fun ((n, a3, c3, R3), cs3, on3) => Row layH 42 R3 (.slice a3 cs3.length c3) cs3 ∧ n < cs3.length ∧ OnRel cs3 on3 ∧ OnOk cs3 on3 ∧ mget on3 e.thread = some (n : Int) ∧ cs3.length ≤ i + 1 ∧ seeF cs on e (i : Int) = finF cs3 on3 n e (i : Int)) ?_ ?_
              · refine W_cond rfl ?_ ?_
                · intro hn
                  have hnone : mget on e.thread = none := by
                    cases hg : mget on e.thread with
                    | none => rfl
                    | some q => rw [hg] at hn; simp at hn
                  have hbt : e.began = true := by
                    rw [hnone] at hb'
                    simpa using hb'
                  refine W_seq ?_
                  refine W_reg rfl ?_
                  refine O_qs (q_move rfl) ?_
                  refine O_qs (q_len Try.runUnderlying38 rfl) ?_
                  refine O_qs (q_assign rfl) ?_
                  refine O_nil ?_
                  refine W_reg rfl ?_
                  refine O_qs (q_move rfl) ?_
                  refine O_qs (q_fa fa_34_0 rfl) ?_
                  refine O_qs (q_load Try.isAgg3 rfl (rd_chunk (by repeat (first | exact List.Mem.head _ | apply List.Mem.tail)) rfl)) ?_
                  refine O_qs (q_fa fa_34_3 rfl) ?_
                  refine O_qs (q_load Try.isAgg3 rfl (rd_chunk (by repeat (first | exact List.Mem.head _ | apply List.Mem.tail)) rfl)) ?_
                  refine O_qs (q_fa fa_34_2 rfl) ?_
                  refine O_qs (q_loadN (vs := [_, _, _, _]) Try.isAgg27 Try.sizeOf27 rfl (rd_range (by repeat (first | exact List.Mem.head _ | apply List.Mem.tail)) rfl)) ?_
                  refine O_qs (q_move rfl) ?_
                  refine O_qs (q_build rfl (bld_30 (cs := [_, _, _]) rfl)) ?_
                  refine O_qs (q_build rfl (bld_42 (cs := [_, _, _, _, _, _, _, _, _, _, _]) rfl)) ?_
                  refine O_es (e_bslice (zl := [.int .i64 0, .int .i64 0, .int .i64 0, .int .u64 0, .int .u64 0, .int .i64 0, .int .i64 0, .int .i64 0, .int .i64 0, .bool false, .int .u64 0]) (cs := [_, _, _, _, _, _, _, _, _, _, _]) Try.runUnderlying38 Try.sizeOf42 Try.zeroValue42 rfl (by kernel_rfl) rfl rfl) ?_
                  rintro _ _ ⟨b64, rfl, rfl⟩
                  refine O_es (ap_R (N := [newCall e (i : Int)]) hR (fun _ => (by repeat (first | exact Upd.here | apply Upd.there))) rfl rfl (src_raw (cs := HCall.l (newCall e (i : Int))) (by repeat (first | exact List.Mem.head _ | apply List.Mem.tail))) (by simp; omega)) ?_
                  rintro _ _ ⟨R3, hR3, rfl⟩
                  obtain ⟨a3, c3, rfl⟩ := hR3.len
                  refine O_qs (q_assign rfl) ?_
                  refine O_nil ?_
                  refine ⟨((cs.length, a3, c3, R3), cs ++ [newCall e (i : Int)], mput on e.thread (cs.length : Int)), _, ?_, (by repeat (first | exact Sub.nil | refine Sub.cons rfl ?_)), (by repeat (first | exact Pick.nil | exact Take.here | apply Pick.cons | apply Take.there))⟩
                  refine ⟨hR3, by simp, hrel.new hnone, ⟨hok.1.put _ _, fun k j hk => ?_⟩, by rw [mget_put, if_pos rfl], by simp; omega, ?_⟩
                  · rw [mget_put] at hk
                    split at hk
                    · simp only [Option.some.injEq] at hk
                      subst hk
                      simp
                      omega
                    · have := hok.2 k j hk
                      simp
                      omega
                  · unfold seeF
                    rw [if_neg hb', if_pos hbt]
                · intro hn
                  obtain ⟨q, hg⟩ : ∃ q, mget on e.thread = some q := by
                    cases hg : mget on e.thread with
                    | none => rw [hg] at hn; simp at hn
                    | some q => exact ⟨q, rfl⟩
                  have hq := hok.2 _ _ hg
                  obtain ⟨n, hqn⟩ : ∃ n : Nat, q = (n : Int) := ⟨q.toNat, by omega⟩
                  subst hqn
                  have hbf : ¬ e.began = true := by rw [hg] at hb'; simpa using hb'
                  rw [hg]
                  refine W_skip ?_
                  refine ⟨((n, a2, c2, R), cs, on), _, ?_, (by repeat (first | exact Sub.nil | refine Sub.cons rfl ?_)), (by repeat (first | exact Pick.nil | exact Take.here | apply Pick.cons | apply Take.there))⟩
                  refine ⟨hR, by omega, hrel, hok, hg, by omega, ?_⟩
                  unfold seeF
                  rw [if_neg hb', if_neg hbf, hg]
                  rfl
              · rintro ⟨⟨n, a3, c3, R3⟩, cs3, on3⟩ ⟨hR3, hn, hrel3, hok3, hg3, hl3, hsee⟩
                dsimp only at hR3 hn hrel3 hok3 hg3 hl3 hsee ⊢
                rw [hsee] at hstep
                obtain ⟨g3, gc3, e3⟩ := hR3.ptr (by omega)
                simp only [Value.slice.injEq, true_and] at e3
                obtain ⟨rfl, rfl⟩ := e3
                obtain ⟨c, hC⟩ : ∃ c, cs3[n]? = some c := ⟨_, List.getElem?_eq_getElem hn⟩
                have hfin : finF cs3 on3 n e (i : Int) = if e.fits c then (if e.over then some (cs3.set n { c with to_ := (i : Int), ans := e.ans }, mdel on3 e.thread) else some (cs3, on3)) else none := by unfold finF; rw [hC]
                have hrel4 : ∀ cs' on', finF cs3 on3 n e (i : Int) = some (cs', on') → OnRel cs' on' ∧ OnOk cs' on' ∧ cs'.length = cs3.length := fun cs' on' hf => ⟨finF_rel hrel3 hok3.1 hg3 (by omega) hf, (finF_ok hok3 hf).1, (finF_ok hok3 hf).2⟩
                rw [hfin] at hrel4 hstep
                refine W_seq ?_
                refine W_seq ?_
                refine W_draw [[], [], [0, 1], [0, 1, 2], [0, 1, 2, 3], [], [5], [0, 1, 2, 3, 4, 5, 6], [0, 1, 2, 3, 4, 5, 6, 7], [0, 1, 2, 3, 4, 5, 6, 7, 8], [0, 1, 2, 3, 4, 5, 6, 7, 8], [0, 1, 2, 3, 4, 5, 6, 7, 8, 9, 10], [0, 1, 2, 3, 4, 5, 6, 7, 8, 9, 10, 11], [0, 1, 2, 3, 4, 5, 6, 7, 8, 9, 10, 11, 12], [0, 1, 2, 3, 4, 5, 6, 7, 8], [0, 1, 2, 3, 4, 5, 6, 7, 8, 14], [0, 1, 2, 3, 4, 5, 6, 7, 8, 9, 10, 11, 12, 13, 14, 15], [0, 1, 2, 3, 4, 5, 6, 7, 8, 9, 10, 11, 12, 13, 14, 15, 16], [0, 1, 2, 3, 4, 5, 6, 7, 8, 9, 10, 11, 12, 13, 14, 15, 16, 17], [0, 1, 2, 3, 4, 5, 6, 7, 8, 9, 10, 11, 12, 13, 14, 15, 16, 17, 18], [0, 1, 2, 3, 4, 5, 6, 7, 8, 9, 10, 11, 12, 13, 14, 15, 16, 17, 18, 19], [0, 1, 2, 3, 4, 5, 6, 7, 8, 9, 10, 11, 12, 13, 14, 15, 16, 17, 18, 19, 20], [0, 1, 2, 3, 4, 5, 6, 7, 8, 9, 10, 11, 12, 13, 14, 15, 16, 17, 18, 19, 20, 21], [0, 1, 2, 3, 4, 5, 6, 7, 8, 9, 10, 11, 12, 13, 14, 15, 16, 17, 18, 19, 20, 21, 22], [0, 1, 2, 3, 4, 5, 6, 7, 8, 9, 10, 11, 12, 13, 14, 15, 16, 17, 18, 19, 20, 21, 22, 23], [0, 1, 2, 3, 4, 5, 6, 7, 8, 9, 10, 11, 12, 13, 14, 15, 16, 17, 18, 19, 20, 21, 22], [0, 1, 2, 3, 4, 5, 6, 7, 8, 9, 10, 11, 12, 13, 14, 15, 16, 17, 18, 19, 20, 21, 22, 23, 24, 25], [0, 1, 2, 3, 4, 5, 6, 7, 8, 9, 10, 11, 12, 13, 14, 15, 16, 17, 18, 19, 20, 21, 22, 23, 24, 25, 26], [0, 1, 2, 3, 4, 5, 6, 7, 8, 9, 10, 11, 12, 13, 14, 15, 16, 17, 18, 19, 20, 21, 22, 23, 24, 25, 26, 27]] rfl rfl rfl ?_
                refine V.qs 0 rfl rfl (q_move rfl) ?_
                refine V.qs 1 rfl rfl (q_move rfl) ?_
                refine V.qs 2 rfl rfl (q_ian Try.runUnderlying38 Try.sizeOf42 rfl rfl hn) ?_
                refine V.qs 3 rfl rfl (q_fa fa_42_2 rfl) ?_
                refine V.qs 4 rfl rfl (q_loadN (vs := [.int .i64 c.op.kind, .int .u64 c.op.key, .int .u64 c.op.val, .int .i64 c.op.level]) Try.isAgg27 Try.sizeOf27 rfl (hR3.rdp (by repeat (first | exact List.Mem.head _ | apply List.Mem.tail)) hC (j0 := 2) (by show 0 + n * 11 + 2 = _; simp [layH]) rfl)) ?_
                refine V.qs 5 rfl rfl (q_fa fa_34_2 rfl) ?_
                refine V.qs 6 rfl rfl (q_loadN (vs := [_, _, _, _]) Try.isAgg27 Try.sizeOf27 rfl (rd_range (by repeat (first | exact List.Mem.head _ | apply List.Mem.tail)) rfl)) ?_
                refine V.qs 7 rfl rfl (q_bin neq_27 rfl rfl) ?_
                refine V.qs 8 rfl rfl (q_move rfl) ?_
                refine V.qs 9 rfl rfl (QY.cond0 rfl rfl rfl (fun H => q_move rfl)) ?_
                refine V.qs 10 rfl rfl (QY.cond0 rfl rfl rfl (fun H => q_move rfl)) ?_
                refine V.qs 11 rfl rfl (QY.cond0 rfl rfl rfl (fun H => q_ian Try.runUnderlying38 Try.sizeOf42 (gvh rfl H) (gvh rfl H) hn)) ?_
                refine V.qs 12 rfl rfl (QY.cond0 rfl rfl rfl (fun H => q_fa fa_42_1 (gvh rfl H))) ?_
                refine V.qs 13 rfl rfl (QY.cond0 rfl rfl rfl (fun H => q_load Try.isAgg3 (gvh rfl H) (hR3.rd (by repeat (first | exact List.Mem.head _ | apply List.Mem.tail)) hC (j := 1) rfl (by show 0 + n * 11 + 1 = _; simp [layH])))) ?_
                refine V.qs 14 rfl rfl (QY.cond0 rfl rfl rfl (fun H => q_fa fa_34_3 rfl)) ?_
                refine V.qs 15 rfl rfl (QY.cond0 rfl rfl rfl (fun H => q_load Try.isAgg3 (gvh rfl H) (rd_chunk (by repeat (first | exact List.Mem.head _ | apply List.Mem.tail)) rfl))) ?_
                refine V.qs 16 rfl rfl (QY.cond0 rfl rfl rfl (fun H => q_neq (gvh rfl H) (gvh rfl H))) ?_
                refine V.qs 17 rfl rfl (q_or rfl rfl rfl) ?_
                refine V.qs 18 rfl rfl (q_move rfl) ?_
                refine V.qs 19 rfl rfl (QY.cond0 rfl rfl rfl (fun H => q_fa fa_34_5 rfl)) ?_
                refine V.qs 20 rfl rfl (QY.cond0 rfl rfl rfl (fun H => q_load Try.isAgg4 (gvh rfl H) (rd_chunk (by repeat (first | exact List.Mem.head _ | apply List.Mem.tail)) rfl))) ?_
                refine V.qs 21 rfl rfl (QY.cond0 rfl rfl rfl (fun H => q_not (gvh rfl H))) ?_
                refine V.qs 22 rfl rfl (QY.cond0 rfl rfl rfl (fun H => q_move (gvh rfl H))) ?_
                refine V.qs 23 rfl rfl (QY.condn rfl rfl rfl (fun H => q_fa fa_34_6 rfl)) ?_
                refine V.qs 24 rfl rfl (QY.condn rfl rfl rfl (fun H => q_loadN (vs := [_, _, _]) Try.isAgg30 Try.sizeOf30 (gvh rfl H) (rd_range (by repeat (first | exact List.Mem.head _ | apply List.Mem.tail)) rfl))) ?_
                refine V.qs 25 rfl rfl (QY.condn rfl rfl rfl (fun H => q_build rfl (bld_30 (cs := [_, _, _]) rfl))) ?_
                refine V.qs 26 rfl rfl (QY.condn rfl rfl rfl (fun H => q_bin neq_30 (gvh rfl H) (gvh rfl H))) ?_
                refine V.qs 27 rfl rfl (QY.cond0 rfl rfl rfl (fun H => q_and (gvh rfl H) (gva rfl H) rfl)) ?_
                refine V.qs 28 rfl rfl (q_or rfl rfl rfl) ?_
                refine V.fin rfl ?_
                refine W_cond rfl ?_ ?_
                · intro hc2
                  have hf : ¬ e.fits c = true := by
                    intro hf
                    simp only [HEv.fits, Bool.and_eq_true, decide_eq_true_eq, Bool.or_eq_true] at hf
                    obtain ⟨⟨f1, f2⟩, f3⟩ := hf
                    rw [f1, f2] at hc2
                    simp at hc2
                    obtain ⟨ho, hn⟩ := hc2
                    rcases f3 with f3 | f3
                    · rw [ho] at f3; cases f3
                    · rw [f3] at hn; simp [Ans.zero] at hn
                  rw [if_neg hf] at hstep
                  refine W_seq ?_
                  refine W_reg rfl ?_
                  refine O_qs (q_assign rfl) ?_
                  refine O_qs (q_assign rfl) ?_
                  refine O_nil ?_
                  refine W_ret ?_
                  refine res2 (c0 := [N]) rfl rfl rfl (by repeat (first | exact Pick.nil | exact Take.here | apply Pick.cons | apply Take.there)) rfl ?_
                  exact .inl ⟨hstep, rfl, rfl⟩
                · intro hc2
                  have hf : e.fits c = true := by
                    simp only [HEv.fits, Bool.and_eq_true, decide_eq_true_eq, Bool.or_eq_true]
                    simp at hc2
                    obtain ⟨⟨⟨g1, g2, g3, g4⟩, g5⟩, g6⟩ := hc2
                    refine ⟨⟨aop_ext g1 g2 g3 g4, g5⟩, ?_⟩
                    cases hov : e.over with
                    | true => exact .inl rfl
                    | false => exact .inr (by have := g6 hov; exact ans_ext this.1 this.2.1 this.2.2)
                  rw [if_pos hf] at hstep hrel4
                  refine W_skip ?_
                  refine W_seq ?_
                  refine W_reg rfl ?_
                  refine O_qs (q_fa fa_34_5 rfl) ?_
                  refine O_qs (q_load Try.isAgg4 rfl (rd_chunk (by repeat (first | exact List.Mem.head _ | apply List.Mem.tail)) rfl)) ?_
                  refine O_nil ?_
                  refine W_cond rfl ?_ ?_
                  · intro hd
                    have ho : e.over = true := hd
                    rw [if_pos ho] at hstep hrel4
                    refine W_seq ?_
                    refine W_reg rfl ?_
                    refine O_qs (q_move rfl) ?_
                    refine O_qs (q_move rfl) ?_
                    refine O_qs (q_move rfl) ?_
                    refine O_qs (q_ian Try.runUnderlying38 Try.sizeOf42 rfl rfl hn) ?_
                    refine O_qs (q_fa fa_42_4 rfl) ?_
                    refine O_en (e_storeRow (vs := [.int .i64 (i : Int)]) (a' := { c with to_ := (i : Int) }) (j := 7) Try.sizeOf3 hR3 (fun _ => (by repeat (first | exact Upd.here | apply Upd.there))) hC rfl (by show 0 + n * 11 + 7 = _; simp [layH]) rfl rfl rfl (Nat.le_of_ble_eq_true rfl)) ?_
                    rintro _ _ ⟨R4, hR4, rfl, rfl⟩
                    refine O_nil ?_
                    refine W_reg rfl ?_
                    refine O_qs (q_move rfl) ?_
                    refine O_qs (q_move rfl) ?_
                    refine O_qs (q_fa fa_34_6 rfl) ?_
                    refine O_qs (q_loadN (vs := [_, _, _]) Try.isAgg30 Try.sizeOf30 rfl (rd_range (by repeat (first | exact List.Mem.head _ | apply List.Mem.tail)) rfl)) ?_
                    refine O_qs (q_ian Try.runUnderlying38 Try.sizeOf42 rfl rfl hn) ?_
                    refine O_qs (q_fa fa_42_5 rfl) ?_
                    have hC2 : (cs3.set n { c with to_ := (i : Int) })[n]? = some { c with to_ := (i : Int) } := by simp [hn]
                    refine O_en (e_storeRow (vs := [.int .i64 e.ans.err, .bool e.ans.done, .int .u64 e.ans.val]) (a' := { c with to_ := (i : Int), ans := e.ans }) (j := 8) Try.sizeOf30 hR4 (fun _ => (by repeat (first | exact Upd.here | apply Upd.there))) hC2 rfl (by show 0 + n * 11 + 8 = _; simp [layH]) rfl rfl rfl (Nat.le_of_ble_eq_true rfl)) ?_
                    rintro _ _ ⟨R5, hR5, rfl, rfl⟩
                    refine O_nil ?_
                    refine W_reg rfl ?_
                    refine O_qs (q_move rfl) ?_
                    refine O_qs (q_add (c := ((i + 1 : Nat) : Int)) (w64' (by omega) (by omega)) rfl rfl) ?_
                    refine O_qs (q_assign rfl) ?_
                    refine O_nil ?_
                    rw [List.set_set] at hR5
                    obtain ⟨r1, r2, r3⟩ := hrel4 _ _ rfl
                    rw [← r3] at hR5 ⊢
                    refine ⟨((i + 1, some ⟨g3, 0, none⟩, c3, R5), cs3.set n { c with to_ := (i : Int), ans := e.ans }, mdel on3 e.thread), _, ?_, ?_, (by repeat (first | exact Sub.nil | refine Sub.cons rfl ?_)), (by repeat (first | exact Pick.nil | exact Take.here | apply Pick.cons | apply Take.there))⟩
                    · exact ⟨hlt, by dsimp only; omega, hR5, r1, r2, hstep⟩
                    · dsimp only; omega
                  · intro hd
                    have ho : ¬ e.over = true := by simpa using hd
                    rw [if_neg ho] at hstep hrel4
                    obtain ⟨r1, r2, r3⟩ := hrel4 _ _ rfl
                    refine W_skip ?_
                    refine W_reg rfl ?_
                    refine O_qs (q_move rfl) ?_
                    refine O_qs (q_add (c := ((i + 1 : Nat) : Int)) (w64' (by omega) (by omega)) rfl rfl) ?_
                    refine O_qs (q_assign rfl) ?_
                    refine O_nil ?_
                    refine ⟨((i + 1, some ⟨g3, 0, none⟩, c3, R3), cs3, on3), _, ?_, ?_, (by repeat (first | exact Sub.nil | refine Sub.cons rfl ?_)), (by repeat (first | exact Pick.nil | exact Take.here | apply Pick.cons | apply Take.there))⟩
                    · exact ⟨hlt, hl3, hR3, r1, r2, hstep⟩
                    · dsimp only; omega
    · intro hcnd
      have hil : i = L.length := by simp at hcnd; omega
      subst hil
      refine W_exit ?_
      refine W_seq ?_
      refine W_reg rfl ?_
      refine O_qs (q_move rfl) ?_
      refine O_qs (q_assign rfl) ?_
      refine O_qs (q_assign rfl) ?_
      refine O_nil ?_
      refine W_ret ?_
      refine res2 (c0 := [N, R]) rfl rfl rfl (by repeat (first | exact Pick.nil | exact Take.here | apply Pick.cons | apply Take.there)) rfl ?_
      refine .inr ⟨cs, _, R, ?_, hR, rfl, rfl⟩
      rw [htot, List.drop_length]
      rfl
end Go.Proofs.Ytolcdmbjddekeaa
