/-
  The places of a memory, gathered.
-/
import Derived.Test.YtbfplncdmbjjhaaGreatIt
import Derived.Test.YtbfplncdmbjjhaaGreatSk4
set_option linter.unusedSimpArgs false
set_option linter.unusedVariables false
namespace Go.SL
theorem Rnd.introA {P : Program} {l n p : Nat} {B : World} {pre c1 c2 : Ctx} {rec : Loop} {v : Value} {env : Env} {Q : Ctx → Prop}
    (hm : ∀ o, Upd pre [(l, .loop rec)] [(l, o)] (c2 ++ [(l, o)] :: c1)) (hst : rec.state = .ready) (hps : rec.params = #[p]) (hpn : p < n) (ht : Rep n env { tmps := rec.tmps, defers := [] })
    (ha : WI (Fence.wide.inRound l) ⟨P, B, dom pre, n⟩ rec.assign (fun e ds env' ctx' => e = .normal ∧ ∃ E : Ctx, ctx' = E ++ pre ∧
      WI (Fence.wide.inRound l) ⟨P, B, dom pre, n⟩ rec.body (fun e _ _ ctx'' => e = .normal ∧ ∃ (c : Obj → Ctx) (c' r' : Ctx), (∀ o, Upd ctx'' [(l, .loop { rec with state := .busy })] [(l, o)] (c o)) ∧ Pick c' (c (.loop { rec with state := .ready, pending := none })) r' ∧ Q c') ds env' (E ++ (c2 ++ [(l, .loop { rec with state := .busy })] :: c1))) [] ((p, v) :: env) pre) :
    Rnd P l [v] B pre Q := by
  intro hi
  have hl := hi.upd_lt (hm (.loop rec)) (b := l) (List.mem_singleton.2 rfl)
  refine ⟨rec.fn, rec.tmps.setIfInBounds p v, rec.assign, rec.body, ?_, ?_⟩
  · have := run_yield (P := P) (args := #[v]) hl (by simp [hps])
    rw [hps] at this
    simpa using this
  · refine roundIn_of_wpIn trivial ?_
    have hrep : RepD n [] ((p, v) :: env) { tmps := rec.tmps.setIfInBounds p v, defers := [] } :=
      RepD.of (ht.put (dst := some p) (v := v) (fun d hd => by cases hd; exact hpn))
    refine wpIn_mono (ha _ B hrep hi) ?_
    rintro e a₁ w₁ ⟨ds, env₁, ctx₁, h1, h2, rfl, E, rfl, hb⟩
    have hl1 := h2.upd_lt ((hm (.loop rec)).pre E) (b := l) (List.mem_singleton.2 rfl)
    have hlt1 : l < w₁.heap.size := (Array.getElem?_eq_some_iff.1 hl1).1
    refine ⟨_, run_beginRound hl1 hst, ?_⟩
    have h3 : Inv B (dom pre) (E ++ (c2 ++ [(l, .loop { rec with state := .busy })] :: c1)) (w₁.putObj l (.loop { rec with state := .busy })) :=
      h2.upd ((hm _).pre E) (World.putObj_heap_same hlt1) (fun k hk => World.putObj_heap_other hk) World.putObj_size rfl rfl rfl
    refine wpIn_mono (hb _ _ h1 h3) ?_
    rintro e a₂ w₂ ⟨ds₂, env₂, ctx₂, g1, g2, rfl, c, c', r', hc, hpk, hQ⟩
    have hl2 := g2.upd_lt (hc (.loop rec)) (b := l) (List.mem_singleton.2 rfl)
    have hlt2 : l < w₂.heap.size := (Array.getElem?_eq_some_iff.1 hl2).1
    refine ⟨_, _, run_endRound none hl2, rfl, _, ?_, hQ⟩
    exact (g2.upd (hc _) (World.putObj_heap_same hlt2) (fun k hk => World.putObj_heap_other hk) World.putObj_size rfl rfl rfl).pick hpk
end Go.SL
namespace Go.Proofs.YtbfplncdmbjjhaaGreat
open Go Go.SL

theorem range_get {α : Type} (l : List α) : (List.range l.length).filterMap (fun i => l[i]?) = l := by
  induction l with
  | nil => rfl
  | cons x l ih =>
    rw [List.length_cons, List.range_succ_eq_map, List.filterMap_cons]
    simp only [List.getElem?_cons_zero, List.filterMap_map]
    congr 1

theorem maps_KeysP (B : World) (m : Nat) : Ctr Tryz.prog 104 [.map (some m)] B [] (fun u c => ∃ b, u = .func (.func 119) #[] #[ptr b] ∧ c = [[(b, .cells #[.map (some m)] 174 (0, 0))]]) := by
  refine Ctr.intro (n := 4) Tryz.func104 rfl Tryz.ntmps104 (Nat.le_of_ble_eq_true rfl) ?_
  refine W_seq ?_
  refine W_reg rfl ?_
  refine O_es (e_box (cs := #[_]) rfl rfl) ?_
  rintro _ _ ⟨b1, rfl, rfl⟩
  refine O_qs (q_assign rfl) ?_
  refine O_nil ?_
  refine W_seq ?_
  refine W_reg rfl ?_
  refine O_qs (q_mkF rfl rfl) ?_
  refine O_qs (q_assign rfl) ?_
  refine O_nil ?_
  refine W_ret ?_
  refine res1 (c0 := [[(b1, _)]]) rfl rfl (by repeat (first | exact Pick.nil | exact Take.here | apply Pick.cons | apply Take.there)) rfl ?_
  exact ⟨b1, rfl, rfl⟩

def keysOf {K V : Type} (l : List (K × V)) (I : List Nat) : List K := I.filterMap (fun i => l[i]?.map (·.1))
theorem keysOf_snoc {K V : Type} (l : List (K × V)) (I : List Nat) {i : Nat} {p : K} {u : V} (h : l[i]? = some (p, u)) : keysOf l (I ++ [i]) = keysOf l I ++ [p] := by
  simp [keysOf, List.filterMap_append, h]
theorem keysOf_perm {K V : Type} (l : List (K × V)) (I : List Nat) (h : I.Perm (List.range l.length)) : (keysOf l I).Perm (l.map (·.1)) := by
  have h1 := h.filterMap (fun i => l[i]?.map (·.1))
  have h2 : (List.range l.length).filterMap (fun i => l[i]?.map (·.1)) = l.map (·.1) := by
    have := congrArg (List.map (·.1)) (range_get l)
    rw [List.map_filterMap] at this
    exact this
  rw [h2] at h1
  exact h1

theorem keys1_givesP (m bx : Nat) (A : Atom) (l : List (Plc × Int)) (hA : MapIs Plc.v (Value.int .u64) A m l) :
    Gives Tryz.prog 119 [ptr bx] Plc.v (fun ks => ks.Perm (l.map (·.1))) l.length [[(bx, .cells #[.map (some m)] 174 (0, 0))], A] [[(bx, .cells #[.map (some m)] 174 (0, 0))], A] := by
  intro lp J c0 B hJ0 hR
  show Ctr Tryz.prog 119 [.func (.yield lp) #[] #[], ptr bx] B ([(bx, .cells #[.map (some m)] 174 (0, 0))] :: A :: c0) _
  refine Ctr.introI (n := 14) Tryz.func119 rfl Tryz.ntmps119 (Nat.le_of_ble_eq_true rfl) ?_
  refine WI_seq ?_
  refine WI_reg rfl ?_
  refine OI_qs .wide (q_load Tryz.isAgg174 rfl (rd_chunk (by repeat (first | exact List.Mem.head _ | apply List.Mem.tail)) rfl)) ?_
  refine OI_es .wide (e_range Tryz.runUnderlying174 hA (by repeat (first | exact List.Mem.head _ | apply List.Mem.tail)) rfl) ?_
  rintro _ _ ⟨r, It, hIt, rfl, rfl⟩
  refine OI_nil ?_
  refine WI_block ?_
  refine WI_loopD (fun (d : List Nat × Atom × Ctx) => [(5, .pointer (some ⟨r, 0, none⟩)), (0, .func (.yield lp) #[] #[])]) (fun d => d.2.1 :: [(bx, .cells #[.map (some m)] 174 (0, 0))] :: A :: d.2.2) (fun d => l.length - d.1.length) (fun d => IterIs Plc.v (Value.int .u64) A d.2.1 m r l d.1 ∧ J (keysOf l d.1) d.2.2) ([], It, c0) ?_ (by repeat (first | exact Sub.nil | refine Sub.cons rfl ?_)) (pick_of_perm (List.Perm.refl _)) ?_
  · exact ⟨hIt, hJ0⟩
  · rintro ⟨I, It, c⟩ ⟨hI, hJ⟩
    dsimp only at hI hJ ⊢
    refine WI_seq ?_
    refine WI_reg rfl ?_
    refine OI_es .wide (e_next hI (by repeat (first | exact List.Mem.head _ | apply List.Mem.tail)) (fun _ => (by repeat (first | exact Upd.here | apply Upd.there))) rfl) ?_
    rintro _ _ hnx
    rcases hnx with ⟨rfl, rfl, hp⟩ | ⟨i, It', p, u, hl, hni, hcard, hI', rfl, rfl⟩
    · refine OI_qs .wide (q_extract rfl rfl) ?_
      refine OI_nil ?_
      refine WI_seq ?_
      refine WI_false rfl ?_
      refine WI_exit ?_
      refine ⟨rfl, res0 rfl (Pick.skip (pick_of_perm (List.Perm.refl _)) It) rfl ⟨keysOf l I, c, keysOf_perm l I hp, hJ, rfl⟩⟩
    · refine OI_qs .wide (q_extract rfl rfl) ?_
      refine OI_nil ?_
      refine WI_seq ?_
      refine WI_true rfl ?_
      refine WI_skip ?_
      refine WI_block ?_
      refine WI_seq ?_
      refine WI_reg rfl ?_
      refine OI_qs .wide (q_entry hI' hl (by repeat (first | exact List.Mem.head _ | apply List.Mem.tail)) (by repeat (first | exact List.Mem.head _ | apply List.Mem.tail)) rfl) ?_
      refine OI_qs .wide (q_extract rfl rfl) ?_
      refine OI_es .wide (e_alloc (cs := #[.int .i64 0, .int .i64 0, .int .i64 0]) Tryz.zeroValue51 rfl) ?_
      rintro _ _ ⟨b3, rfl, rfl⟩
      refine OI_en .wide (e_storeN (vs := [_, _, _]) Tryz.sizeOf51 rfl rfl rfl (by repeat (first | exact Upd.here | apply Upd.there)) rfl (by simp only [setAll, List.setIfInBounds_toArray, List.set_cons_succ, List.set_cons_zero, Nat.reduceAdd, Nat.zero_add] <;> rfl)) ?_
      rintro _ _ ⟨rfl, rfl⟩
      refine OI_nil ?_
      refine WI_seq ?_
      refine WI_reg rfl ?_
      refine OI_qs .wide (q_move rfl) ?_
      refine OI_qs .wide (q_loadN (vs := [_, _, _]) Tryz.isAgg51 Tryz.sizeOf51 rfl (rd_range (by repeat (first | exact List.Mem.head _ | apply List.Mem.tail)) rfl)) ?_
      refine OI_yield rfl rfl (pick_suf [[(b3, .cells (Plc.l p).toArray 51 (0, 0))], It', [(bx, .cells #[.map (some m)] 174 (0, 0))], A] c) (fun wd hwd => hR (keysOf l I) p c wd hJ (Nat.lt_of_le_of_lt (List.length_filterMap_le _ _) hcard)) ?_
      rintro _ hJ2
      refine OI_qs .wide (q_not rfl) ?_
      refine OI_nil ?_
      rename_i c2
      refine WI_perm (ctx' := [(b3, .cells (Plc.l p).toArray 51 (0, 0))] :: It' :: [(bx, .cells #[.map (some m)] 174 (0, 0))] :: A :: c2) List.perm_append_comm ?_
      refine WI_false rfl ?_
      refine WI_skip ?_
      refine ⟨(I ++ [i], It', c2), _, rfl, ?_, ?_, (by repeat (first | exact Sub.nil | refine Sub.cons rfl ?_)), (Pick.skip (pick_of_perm (List.Perm.refl _)) _)⟩
      · exact ⟨hI', by rw [keysOf_snoc l I hl]; exact hJ2⟩
      · simp only [List.length_append, List.length_cons, List.length_nil]
        omega

/-- What the loop of a gathering keeps. -/
def GathP (b2 l D : Nat) (rec : Loop) (xs : List Plc) (c : Ctx) : Prop :=
  rec.pending = none ∧ ∃ v R, Row layP 51 R v xs ∧ c = [[(l, .loop rec)], [(D, .deferred (some []))], [(b2, .cells #[v] 113 (0, 0))], R]

theorem slices_AppendSeqP (B : World) (g : FuncId) (lb : List Value) (S : List Plc → Prop) (N : Nat) (pre pst : Ctx) (hN : N ≤ 1000000) (hcf : ∀ args w, (callFunc g args).run Tryz.prog w = .ok (.enter g args) w)
    (hI : Gives Tryz.prog g lb Plc.v S N pre pst) :
    Ctr Tryz.prog 126 [.slice none 0 0, .func (.func g) #[] lb.toArray] B pre (fun u c => ∃ xs R, S xs ∧ Row layP 51 R u xs ∧ c = R :: pst) := by
  refine Ctr.introM (n := 13) Tryz.func126 rfl Tryz.ntmps126 (Nat.le_of_ble_eq_true rfl) ?_
  refine WI_seq ?_
  refine WI_reg rfl ?_
  refine OI_es .wide (e_box (cs := #[_]) rfl rfl) ?_
  rintro _ _ ⟨b2, rfl, rfl⟩
  refine OI_qs .wide (q_assign rfl) ?_
  refine OI_nil ?_
  refine WI_seq ?_
  refine WI_seq ?_
  refine WI_reg rfl ?_
  refine OI_qs .wide (q_move rfl) ?_
  refine OI_nil ?_
  refine WI_block ?_
  refine WI_conv (ctx' := [(b2, .cells #[.slice none 0 0] 113 (0, 0))] :: [] :: pre) rfl ?_
  refine WI_range (c0 := [[(b2, .cells #[.slice none 0 0] 113 (0, 0))], []]) rfl hcf hI (r := []) (pick_of_perm (List.perm_append_comm (l₁ := [[(b2, Obj.cells #[.slice none 0 0] 113 (0, 0))], []]))) (GathP b2) ?_ ?_ ?_
  · intro l D fn t ht
    exact ⟨rfl, _, _, Row.nil .., rfl⟩
  · intro l D rec hst hps has hbo ht xs x c B' hJ hlen
    obtain ⟨hpn, v, R, hR, rfl⟩ := hJ
    refine Rnd.introA (n := 13) (p := 7) (c2 := []) (env := [(2, ptr b2)]) (fun o => .here) hst hps (by decide) ⟨rfl, ht.sz, fun t v hv => ht.ag t v (by
      simp only [look_cons] at hv
      split at hv
      · rename_i e; subst e; exact hv
      · cases hv)⟩ ?_
    rw [has]
    refine WI_reg rfl ?_
    refine OI_es (.round l) (e_alloc (cs := #[.int .i64 0, .int .i64 0, .int .i64 0]) Tryz.zeroValue51 rfl) ?_
    rintro _ _ ⟨b5, rfl, rfl⟩
    refine OI_en (.round l) (e_storeN (vs := [_, _, _]) Tryz.sizeOf51 rfl rfl rfl (by repeat (first | exact Upd.here | apply Upd.there)) rfl (by simp only [setAll, List.setIfInBounds_toArray, List.set_cons_succ, List.set_cons_zero, Nat.reduceAdd, Nat.zero_add] <;> rfl)) ?_
    rintro _ _ ⟨rfl, rfl⟩
    refine OI_nil ?_
    refine ⟨rfl, [[(b5, .cells (Plc.l x).toArray 51 (0, 0))]], rfl, ?_⟩
    rw [hbo]
    refine WI_block ?_
    refine WI_reg rfl ?_
    refine OI_qs (.round l) (q_load Tryz.isAgg113 rfl (rd_chunk (by repeat (first | exact List.Mem.head _ | apply List.Mem.tail)) rfl)) ?_
    refine OI_qs (.round l) (q_loadN (vs := [_, _, _]) Tryz.isAgg51 Tryz.sizeOf51 rfl (rd_range (by repeat (first | exact List.Mem.head _ | apply List.Mem.tail)) rfl)) ?_
    refine OI_es (.round l) (e_bslice (zl := [.int .i64 0, .int .i64 0, .int .i64 0]) (cs := [_, _, _]) Tryz.runUnderlying113 Tryz.sizeOf51 Tryz.zeroValue51 rfl (by kernel_rfl) rfl rfl) ?_
    rintro _ _ ⟨b10, rfl, rfl⟩
    refine OI_es (.round l) (ap_P (N := [x]) hR (fun _ => (by repeat (first | exact Upd.here | apply Upd.there))) rfl rfl (src_raw (by repeat (first | exact List.Mem.head _ | apply List.Mem.tail))) (by simp; omega)) ?_
    rintro _ _ ⟨R', hR', rfl⟩
    obtain ⟨a3, c3, rfl⟩ := hR'.len
    refine OI_en (.round l) (e_store Tryz.sizeOf113 rfl rfl rfl (by repeat (first | exact Upd.here | apply Upd.there)) rfl (by simp only [setAll, List.setIfInBounds_toArray, List.set_cons_succ, List.set_cons_zero, Nat.reduceAdd, Nat.zero_add] <;> rfl)) ?_
    rintro _ _ ⟨rfl, rfl⟩
    refine OI_nil ?_
    refine ⟨rfl, fun o => [(b10, _)] :: [(b5, _)] :: [(l, o)] :: _, _, [[(b10, _)], [(b5, _)]], fun o => .there (.there .here), pick_suf [_, _] _, hpn, _, R', hR', ?_⟩
    congr 3
    cases rec
    simp_all
  · intro l D rec xs c hst hpn hS hJ
    obtain ⟨_, v, R, hR, rfl⟩ := hJ
    refine ⟨fun o => [[(l, o)], [(D, .deferred (some []))], [(b2, .cells #[v] 113 (0, 0))], R], fun o => .here, ?_⟩
    dsimp only [blockD, thenD]
    refine WI_perm (ctx' := [(b2, .cells #[v] 113 (0, 0))] :: [(D, .deferred (some []))] :: R :: (pst ++ [[(l, .loop { rec with state := .exhausted })]])) ?_ ?_
    · rw [List.append_nil]
      exact (List.perm_append_comm.trans (List.perm_append_singleton [(l, Obj.loop { rec with state := .exhausted })] ([(D, .deferred (some []))] :: [(b2, .cells #[v] 113 (0, 0))] :: R :: pst)).symm).trans (List.Perm.swap ..)
    · refine WI_seq ?_
      refine WI_reg rfl ?_
      refine OI_qs .wide (q_load Tryz.isAgg113 rfl (rd_chunk (by repeat (first | exact List.Mem.head _ | apply List.Mem.tail)) rfl)) ?_
      refine OI_qs .wide (q_assign rfl) ?_
      refine OI_nil ?_
      refine WI_ret ?_
      refine ⟨D, v, R :: pst, R :: pst, _, rfl, .cons (.there .here) (.cons (.there .here) ((pick_pre pst _).skip _)), rfl, ?_, xs, R, hS, hR, rfl⟩
      intro t ht w
      have h1 := ht.ag 4 v rfl
      simp [results, Tryz.func126, h1]

theorem slices_CollectP (B : World) (g : FuncId) (lb : List Value) (S : List Plc → Prop) (N : Nat) (X Y : Atom) (hN : N ≤ 1000000) (hcf : ∀ args w, (callFunc g args).run Tryz.prog w = .ok (.enter g args) w)
    (hI : Gives Tryz.prog g lb Plc.v S N [X, Y] [X, Y]) :
    Ctr Tryz.prog 117 [.func (.func g) #[] lb.toArray] B [X, Y] (fun u c => ∃ xs R, S xs ∧ Row layP 51 R u xs ∧ c = [R, X, Y]) := by
  refine Ctr.intro (n := 5) Tryz.func117 rfl Tryz.ntmps117 (Nat.le_of_ble_eq_true rfl) ?_
  refine W_seq ?_
  refine W_reg rfl ?_
  refine O_qs (q_assign rfl) ?_
  refine O_nil ?_
  refine W_seq ?_
  refine W_reg rfl ?_
  refine O_qs (q_move rfl) ?_
  refine O_es (e_cf Tryz.call126 rfl (fun wd hwd => (slices_AppendSeqP _ g lb S N [X, Y] [X, Y] hN hcf hI)) (by repeat (first | exact Pick.nil | exact Take.here | apply Pick.cons | apply Take.there))) ?_
  rintro _ _ ⟨_, ⟨xs, R, hS, hR, rfl⟩, rfl⟩
  refine O_qs (q_assign rfl) ?_
  refine O_nil ?_
  refine W_ret ?_
  refine res1 (c0 := [R, X, Y]) rfl rfl (by repeat (first | exact Pick.nil | exact Take.here | apply Pick.cons | apply Take.there)) rfl ?_
  exact ⟨xs, R, hS, hR, rfl⟩
end Go.Proofs.YtbfplncdmbjjhaaGreat
