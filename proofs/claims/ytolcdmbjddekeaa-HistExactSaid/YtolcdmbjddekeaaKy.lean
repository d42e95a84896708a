/-
  The keys of a map, gathered.
-/
import Derived.Test.YtolcdmbjddekeaaTy
import Derived.Test.YtolcdmbjddekeaaIt
import Derived.Test.YtolcdmbjddekeaaMod
set_option linter.unusedSimpArgs false
set_option linter.unusedVariables false
namespace Go.Proofs.Ytolcdmbjddekeaa
open Go Go.SL

theorem range_get {α : Type} (l : List α) : (List.range l.length).filterMap (fun i => l[i]?) = l := by
  induction l with
  | nil => rfl
  | cons x l ih =>
    rw [List.length_cons, List.range_succ_eq_map, List.filterMap_cons]
    simp only [List.getElem?_cons_zero, List.filterMap_map]
    congr 1

theorem keyU : KeyLaw Try.prog 25 (Value.int .u64) := KeyLaw.int Try.runUnderlying25
def layU : Lay Int where
  enc := fun x => [.int .u64 x]
  size := 1
  pos := by decide
  len := fun _ => rfl
  one := by
    intro a u h
    simp only [List.mem_singleton] at h
    subst h; rfl

theorem maps_Keys (B : World) (m : Nat) : Ctr Try.prog 30 [.map (some m)] B [] (fun u c => ∃ b, u = .func (.func 34) #[] #[ptr b] ∧ c = [[(b, .cells #[.map (some m)] 66 (0, 0))]]) := by
  refine Ctr.intro (n := 4) Try.func30 rfl Try.ntmps30 (Nat.le_of_ble_eq_true rfl) ?_
  refine W_seq ?_
  refine W_reg rfl ?_
  refine O_es (e_box (cs := #[_]) rfl rfl) ?_
  rintro _ _ ⟨b1, rfl, rfl⟩
  refine O_qs (q_assign rfl) ?_
  refine O_nil ?_
  refine W_seq ?_
  refine W_reg rfl ?_
  refine O_qs (q_mkF rfl rfl) ?_
  refine O_qs (q_assign rfl) ?_
  refine O_nil ?_
  refine W_ret ?_
  refine res1 (c0 := [[(b1, _)]]) rfl rfl (by repeat (first | exact Pick.nil | exact Take.here | apply Pick.cons | apply Take.there)) rfl ?_
  exact ⟨b1, rfl, rfl⟩

def keysOf {V : Type} (l : List (Int × V)) (I : List Nat) : List Int := I.filterMap (fun i => l[i]?.map (·.1))
theorem keysOf_snoc {V : Type} (l : List (Int × V)) (I : List Nat) {i : Nat} {p : Int} {u : V} (h : l[i]? = some (p, u)) : keysOf l (I ++ [i]) = keysOf l I ++ [p] := by
  simp [keysOf, List.filterMap_append, h]
theorem keysOf_perm {V : Type} (l : List (Int × V)) (I : List Nat) (h : I.Perm (List.range l.length)) : (keysOf l I).Perm (l.map (·.1)) := by
  have h1 := h.filterMap (fun i => l[i]?.map (·.1))
  have h2 : (List.range l.length).filterMap (fun i => l[i]?.map (·.1)) = l.map (·.1) := by
    have := congrArg (List.map (·.1)) (range_get l)
    rw [List.map_filterMap] at this
    exact this
  rw [h2] at h1
  exact h1

theorem keys1_gives (m bx : Nat) (A : Atom) (l : List (Int × Int)) (hA : MapIs (Value.int .u64) (Value.int .i64) A m l) :
    Gives Try.prog 34 [ptr bx] (Value.int .u64) (fun ks => ks.Perm (l.map (·.1))) l.length [[(bx, .cells #[.map (some m)] 66 (0, 0))], A] [[(bx, .cells #[.map (some m)] 66 (0, 0))], A] := by
  intro lp J c0 B hJ0 hR
  show Ctr Try.prog 34 [.func (.yield lp) #[] #[], ptr bx] B ([(bx, .cells #[.map (some m)] 66 (0, 0))] :: A :: c0) _
  refine Ctr.introI (n := 14) Try.func34 rfl Try.ntmps34 (Nat.le_of_ble_eq_true rfl) ?_
  refine WI_seq ?_
  refine WI_reg rfl ?_
  refine OI_qs .wide (q_load Try.isAgg66 rfl (rd_chunk (by repeat (first | exact List.Mem.head _ | apply List.Mem.tail)) rfl)) ?_
  refine OI_es .wide (e_range Try.runUnderlying66 hA (by repeat (first | exact List.Mem.head _ | apply List.Mem.tail)) rfl) ?_
  rintro _ _ ⟨r, It, hIt, rfl, rfl⟩
  refine OI_nil ?_
  refine WI_block ?_
  refine WI_loopD (fun (d : List Nat × Atom × Ctx) => [(5, .pointer (some ⟨r, 0, none⟩)), (0, .func (.yield lp) #[] #[])]) (fun d => d.2.1 :: [(bx, .cells #[.map (some m)] 66 (0, 0))] :: A :: d.2.2) (fun d => l.length - d.1.length) (fun d => IterIs (Value.int .u64) (Value.int .i64) A d.2.1 m r l d.1 ∧ J (keysOf l d.1) d.2.2) ([], It, c0) ?_ (by repeat (first | exact Sub.nil | refine Sub.cons rfl ?_)) (pick_of_perm (List.Perm.refl _)) ?_
  · exact ⟨hIt, hJ0⟩
  · rintro ⟨I, It, c⟩ ⟨hI, hJ⟩
    dsimp only at hI hJ ⊢
    refine WI_seq ?_
    refine WI_reg rfl ?_
    refine OI_es .wide (e_next hI (by repeat (first | exact List.Mem.head _ | apply List.Mem.tail)) (fun _ => (by repeat (first | exact Upd.here | apply Upd.there))) rfl) ?_
    rintro _ _ hnx
    rcases hnx with ⟨rfl, rfl, hp⟩ | ⟨i, It', p, u, hl, hni, hcard, hI', rfl, rfl⟩
    · refine OI_qs .wide (q_extract rfl rfl) ?_
      refine OI_nil ?_
      refine WI_seq ?_
      refine WI_false rfl ?_
      refine WI_exit ?_
      refine ⟨rfl, res0 rfl (Pick.skip (pick_of_perm (List.Perm.refl _)) It) rfl ⟨keysOf l I, c, keysOf_perm l I hp, hJ, rfl⟩⟩
    · refine OI_qs .wide (q_extract rfl rfl) ?_
      refine OI_nil ?_
      refine WI_seq ?_
      refine WI_true rfl ?_
      refine WI_skip ?_
      refine WI_block ?_
      refine WI_seq ?_
      refine WI_reg rfl ?_
      refine OI_qs .wide (q_entry hI' hl (by repeat (first | exact List.Mem.head _ | apply List.Mem.tail)) (by repeat (first | exact List.Mem.head _ | apply List.Mem.tail)) rfl) ?_
      refine OI_qs .wide (q_extract rfl rfl) ?_
      refine OI_qs .wide (q_assign rfl) ?_
      refine OI_nil ?_
      refine WI_seq ?_
      refine WI_reg rfl ?_
      refine OI_qs .wide (q_move rfl) ?_
      refine OI_qs .wide (q_move rfl) ?_
      refine OI_yield rfl rfl (pick_suf [It', [(bx, .cells #[.map (some m)] 66 (0, 0))], A] c) (fun wd hwd => hR (keysOf l I) p c wd hJ (Nat.lt_of_le_of_lt (List.length_filterMap_le _ _) hcard)) ?_
      rintro _ hJ2
      refine OI_qs .wide (q_not rfl) ?_
      refine OI_nil ?_
      rename_i c2
      refine WI_false rfl ?_
      refine WI_skip ?_
      refine ⟨(I ++ [i], It', c2), _, rfl, ?_, ?_, (by repeat (first | exact Sub.nil | refine Sub.cons rfl ?_)), (pick_of_perm List.perm_append_comm)⟩
      · exact ⟨hI', by rw [keysOf_snoc l I hl]; exact hJ2⟩
      · simp only [List.length_append, List.length_cons, List.length_nil]
        omega

theorem ap_U {B : World} {own : List Nat} {n : Nat} {all : Array Oper} {env : Env} {ctx : Ctx} {dst : Option Tmp} {ty : TypeId} {pos : String} {aft : Array Edge} {x y : Operand} {A : Atom} {v u : Value} {L N : List Int} {c' : Atom → Ctx}
    (hA : Row layU 25 A v L) (hm : ∀ A', Upd ctx A A' (c' A')) (hx : evalO env x = some v) (hy : evalO env y = some u) (hs : Src ⟨Try.prog, B, own, n⟩ ctx u N.length (layU.all N)) (hl : L.length + N.length ≤ 1099511627776) :
    EY ⟨Try.prog, B, own, n⟩ all ⟨dst, .call ⟨.builtin .append, #[x, y], #[55, 55]⟩, ty, pos, aft, none⟩ env ctx (fun v' c => ∃ A', Row layU 25 A' v' (L ++ N) ∧ c = c' A') :=
  e_append (Y := layU) (i := Try.t25) (bytes := 8) Try.underlying55 (by kernel_rfl) rfl rfl rfl rfl hA hm hx hy hs (by omega) (by simp only [maxLen]; omega)

/-- What the loop of a gathering keeps. -/
def GathJ (b2 l D : Nat) (rec : Loop) (xs : List Int) (c : Ctx) : Prop :=
  rec.pending = none ∧ ∃ v R, Row layU 25 R v xs ∧ c = [[(l, .loop rec)], [(D, .deferred (some []))], [(b2, .cells #[v] 55 (0, 0))], R]

theorem slices_AppendSeq (B : World) (g : FuncId) (lb : List Value) (S : List Int → Prop) (N : Nat) (pre pst : Ctx) (hN : N ≤ 1000000) (hcf : ∀ args w, (callFunc g args).run Try.prog w = .ok (.enter g args) w)
    (hI : Gives Try.prog g lb (Value.int .u64) S N pre pst) :
    Ctr Try.prog 35 [.slice none 0 0, .func (.func g) #[] lb.toArray] B pre (fun u c => ∃ xs R, S xs ∧ Row layU 25 R u xs ∧ c = R :: pst) := by
  refine Ctr.introM (n := 13) Try.func35 rfl Try.ntmps35 (Nat.le_of_ble_eq_true rfl) ?_
  refine WI_seq ?_
  refine WI_reg rfl ?_
  refine OI_es .wide (e_box (cs := #[_]) rfl rfl) ?_
  rintro _ _ ⟨b2, rfl, rfl⟩
  refine OI_qs .wide (q_assign rfl) ?_
  refine OI_nil ?_
  refine WI_seq ?_
  refine WI_seq ?_
  refine WI_reg rfl ?_
  refine OI_qs .wide (q_move rfl) ?_
  refine OI_nil ?_
  refine WI_block ?_
  refine WI_conv (ctx' := [(b2, .cells #[.slice none 0 0] 55 (0, 0))] :: [] :: pre) rfl ?_
  refine WI_range (c0 := [[(b2, .cells #[.slice none 0 0] 55 (0, 0))], []]) rfl hcf hI (r := []) (pick_of_perm (List.perm_append_comm (l₁ := [[(b2, Obj.cells #[.slice none 0 0] 55 (0, 0))], []]))) (GathJ b2) ?_ ?_ ?_
  · intro l D fn t ht
    exact ⟨rfl, _, _, Row.nil .., rfl⟩
  · intro l D rec hst hps has hbo ht xs x c B' hJ hlen
    obtain ⟨hpn, v, R, hR, rfl⟩ := hJ
    refine Rnd.intro (n := 13) (p := 7) (c2 := []) (env := [(2, ptr b2)]) (fun o => .here) hst hps (by decide) ⟨rfl, ht.sz, fun t v hv => ht.ag t v (by
      simp only [look_cons] at hv
      split at hv
      · rename_i e; subst e; exact hv
      · cases hv)⟩ ?_
    rw [has]
    refine WI_reg rfl ?_
    refine OI_qs (.round l) (q_assign rfl) ?_
    refine OI_nil ?_
    refine ⟨rfl, rfl, ?_⟩
    rw [hbo]
    refine WI_block ?_
    refine WI_reg rfl ?_
    refine OI_qs (.round l) (q_load Try.isAgg55 rfl (rd_chunk (by repeat (first | exact List.Mem.head _ | apply List.Mem.tail)) rfl)) ?_
    refine OI_qs (.round l) (q_move rfl) ?_
    refine OI_es (.round l) (e_bslice (zl := [.int .u64 0]) (cs := [_]) Try.runUnderlying55 Try.sizeOf25 Try.zeroValue25 rfl (by kernel_rfl) rfl rfl) ?_
    rintro _ _ ⟨b10, rfl, rfl⟩
    refine OI_es (.round l) (ap_U (N := [x]) hR (fun _ => (by repeat (first | exact Upd.here | apply Upd.there))) rfl rfl (src_raw (by repeat (first | exact List.Mem.head _ | apply List.Mem.tail))) (by simp; omega)) ?_
    rintro _ _ ⟨R', hR', rfl⟩
    obtain ⟨a3, c3, rfl⟩ := hR'.len
    refine OI_en (.round l) (e_store Try.sizeOf55 rfl rfl rfl (by repeat (first | exact Upd.here | apply Upd.there)) rfl (by simp only [setAll, List.setIfInBounds_toArray, List.set_cons_succ, List.set_cons_zero, Nat.reduceAdd, Nat.zero_add] <;> rfl)) ?_
    rintro _ _ ⟨rfl, rfl⟩
    refine OI_nil ?_
    refine ⟨rfl, fun o => [(b10, _)] :: [(l, o)] :: _, _, [[(b10, _)]], fun o => .there .here, pick_suf [_] _, hpn, _, R', hR', ?_⟩
    congr 3
    cases rec
    simp_all
  · intro l D rec xs c hst hpn hS hJ
    obtain ⟨_, v, R, hR, rfl⟩ := hJ
    refine ⟨fun o => [[(l, o)], [(D, .deferred (some []))], [(b2, .cells #[v] 55 (0, 0))], R], fun o => .here, ?_⟩
    dsimp only [blockD, thenD]
    refine WI_perm (ctx' := [(b2, .cells #[v] 55 (0, 0))] :: [(D, .deferred (some []))] :: R :: (pst ++ [[(l, .loop { rec with state := .exhausted })]])) ?_ ?_
    · rw [List.append_nil]
      exact (List.perm_append_comm.trans (List.perm_append_singleton [(l, Obj.loop { rec with state := .exhausted })] ([(D, .deferred (some []))] :: [(b2, .cells #[v] 55 (0, 0))] :: R :: pst)).symm).trans (List.Perm.swap ..)
    · refine WI_seq ?_
      refine WI_reg rfl ?_
      refine OI_qs .wide (q_load Try.isAgg55 rfl (rd_chunk (by repeat (first | exact List.Mem.head _ | apply List.Mem.tail)) rfl)) ?_
      refine OI_qs .wide (q_assign rfl) ?_
      refine OI_nil ?_
      refine WI_ret ?_
      refine ⟨D, v, R :: pst, R :: pst, _, rfl, .cons (.there .here) (.cons (.there .here) ((pick_pre pst _).skip _)), rfl, ?_, xs, R, hS, hR, rfl⟩
      intro t ht w
      have h1 := ht.ag 4 v rfl
      simp [results, Try.func35, h1]
end Go.Proofs.Ytolcdmbjddekeaa
