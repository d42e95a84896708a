/-
  The anchor of the law of calls.
-/
import Derived.Test.YtolcdmbjddekeaaKs
import Derived.Test.YtolcdmbjddekeaaH5
set_option linter.unusedSimpArgs false
set_option linter.unusedVariables false
namespace Go.Proofs.Ytolcdmbjddekeaa
open Go Go.SL

theorem hist_Of_some (B : World) (sa : Option Addr) (n cap : Nat) (L : List HEv) (hn : L.length = n) (hb : BaseRow layV B sa L) (hlen : L.length ≤ 100000) (cs : List HCall) (h : ofF L 0 [] [] = some cs) :
    Ctr Try.prog 7 [.slice sa n cap] B [] (fun u k => ∃ v R, Row layH 44 R v cs ∧ cs.length ≤ L.length ∧ u = .tuple #[v, .int .i64 0] ∧ k = [R]) := by
  refine (hist_Of B sa n cap L hn hb hlen).mono ?_
  rintro u k (⟨h1, _⟩ | ⟨cs', v, R, h1, h2, h3, h4⟩)
  · rw [h] at h1; cases h1
  · rw [h] at h1
    obtain rfl := Option.some.inj h1
    exact ⟨v, R, h2, h3, h4⟩
theorem hist_Of_none (B : World) (sa : Option Addr) (n cap : Nat) (L : List HEv) (hn : L.length = n) (hb : BaseRow layV B sa L) (hlen : L.length ≤ 100000) (h : ofF L 0 [] [] = none) :
    Ctr Try.prog 7 [.slice sa n cap] B [] (fun u k => u = .tuple #[.slice none 0 0, .int .i64 4] ∧ k = []) := by
  refine (hist_Of B sa n cap L hn hb hlen).mono ?_
  rintro u k (⟨_, h1, h2⟩ | ⟨cs', v, R, h1, _⟩)
  · exact ⟨h1, h2⟩
  · rw [h] at h1; cases h1

theorem baseV {B wd : World} {own : List Nat} {ctx : Ctx} {b : Nat} (L : List HEv) (hl : L.length ≤ 1000) (hm : [(b, .cells (layV.all L).toArray 32 (0, 0))] ∈ ctx) (hwd : Inv B own ctx wd) : BaseRow layV wd (some ⟨b, 0, none⟩) L :=
  Row.base (e := 32) (n := L.length) (cap := L.length) (.inr ⟨b, L.length, (layV.all L).toArray, rfl, rfl, Nat.le_refl _, by simp only [maxLen]; omega, by simp [Lay.all_len], by simp [← layV.all_len]⟩) hm hwd

theorem row_cap {α : Type} {Y : Lay α} {e : TypeId} {A : Atom} {sa : Option Addr} {n cap : Nat} {L : List α} (h : Row Y e A (.slice sa n cap) L) : L.length ≤ cap := by
  rcases h with ⟨h, rfl, _⟩ | ⟨g, cap', cur, h, _, h1, _⟩
  · exact Nat.zero_le _
  · cases h; exact h1

def opA : AOp := ⟨3, 4, 0, 0⟩
def evA : List HEv := [⟨0, 0, false, opA, 0, true, false, Ans.zero⟩, ⟨0, 1, false, opA, 0, true, false, Ans.zero⟩, ⟨0, 0, false, opA, 0, false, true, Ans.zero⟩, ⟨0, 0, true, ⟨0, 0, 0, 0⟩, 0, false, false, Ans.zero⟩, ⟨0, 1, false, opA, 0, false, true, ⟨0, true, 0⟩⟩]
def clA : List HCall := [⟨0, 0, opA, 0, 2, Ans.zero⟩, ⟨1, 0, opA, 1, 4, ⟨0, true, 0⟩⟩]
def evB : List HEv := [⟨0, 0, false, ⟨0, 0, 0, 0⟩, 0, false, true, Ans.zero⟩]
theorem ofA : ofF evA 0 [] [] = some clA := by decide +kernel
theorem ofB : ofF evB 0 [] [] = none := by decide +kernel
theorem keysA : (keyAll clA).map (·.1) = [4] := by decide +kernel
theorem okA : (if goodL clA then (0 : Int) else 4) = 0 := by decide +kernel
theorem ovA : (ovN clA clA.length : Int) = 1 := by decide +kernel
theorem opnA : (clA.filter fun c => decide (c.to_ = -1)) = [] := by decide +kernel

def zeroV : List Value := [.int .i64 0, .int .i64 0, .bool false, .int .i64 0, .int .u64 0, .int .u64 0, .int .i64 0, .int .i64 0, .bool false, .bool false, .int .i64 0, .bool false, .int .u64 0]
theorem law24_awake (B : World) : Ctr Try.prog 6 [] B [] (fun u k => u = .bool true ∧ k = []) := by
  refine Ctr.intro (n := 86) Try.func6 rfl Try.ntmps6 (Nat.le_of_ble_eq_true rfl) ?_
  refine W_seq ?_
  refine W_reg rfl ?_
  refine O_qs (q_assign rfl) ?_
  refine O_nil ?_
  refine W_seq ?_
  refine W_reg rfl ?_
  refine O_qs (q_build rfl (bld_27 (cs := [_, _, _, _]) rfl)) ?_
  refine O_es (e_alloc (cs := #[.int .i64 0, .int .u64 0, .int .u64 0, .int .i64 0]) Try.zeroValue27 rfl) ?_
  rintro _ _ ⟨b1, rfl, rfl⟩
  refine O_en (e_storeN (vs := [_, _, _, _]) Try.sizeOf27 rfl rfl rfl (by repeat (first | exact Upd.here | apply Upd.there)) rfl (by simp only [setAll, List.setIfInBounds_toArray, List.set_cons_succ, List.set_cons_zero, Nat.reduceAdd, Nat.zero_add] <;> rfl)) ?_
  rintro _ _ ⟨rfl, rfl⟩
  refine O_nil ?_
  refine W_seq ?_
  refine W_reg rfl ?_
  refine O_qs (q_loadN (vs := [_, _, _, _]) Try.isAgg27 Try.sizeOf27 rfl (rd_range (by repeat (first | exact List.Mem.head _ | apply List.Mem.tail)) rfl)) ?_
  refine O_qs (q_build rfl (bld_32 (cs := [_, _, _, _, _, _, _, _, _, _, _, _, _]) rfl)) ?_
  refine O_qs (q_loadN (vs := [_, _, _, _]) Try.isAgg27 Try.sizeOf27 rfl (rd_range (by repeat (first | exact List.Mem.head _ | apply List.Mem.tail)) rfl)) ?_
  refine O_qs (q_build rfl (bld_32 (cs := [_, _, _, _, _, _, _, _, _, _, _, _, _]) rfl)) ?_
  refine O_qs (q_loadN (vs := [_, _, _, _]) Try.isAgg27 Try.sizeOf27 rfl (rd_range (by repeat (first | exact List.Mem.head _ | apply List.Mem.tail)) rfl)) ?_
  refine O_qs (q_build rfl (bld_32 (cs := [_, _, _, _, _, _, _, _, _, _, _, _, _]) rfl)) ?_
  refine O_qs (q_build rfl (bld_32 (cs := [_, _, _, _, _, _, _, _, _, _, _, _, _]) rfl)) ?_
  refine O_qs (q_loadN (vs := [_, _, _, _]) Try.isAgg27 Try.sizeOf27 rfl (rd_range (by repeat (first | exact List.Mem.head _ | apply List.Mem.tail)) rfl)) ?_
  refine O_qs (q_build rfl (bld_30 (cs := [_, _, _]) rfl)) ?_
  refine O_qs (q_build rfl (bld_32 (cs := [_, _, _, _, _, _, _, _, _, _, _, _, _]) rfl)) ?_
  refine O_es (e_bslice (zl := zeroV ++ zeroV ++ zeroV ++ zeroV ++ zeroV) (cs := layV.all evA) Try.runUnderlying22 Try.sizeOf32 Try.zeroValue32 rfl (by kernel_rfl) rfl (by kernel_rfl)) ?_
  rintro _ _ ⟨b19, rfl, rfl⟩
  refine O_es (e_cf Try.call7 rfl (fun wd hwd => (hist_Of_some _ (some ⟨b19, 0, none⟩) 5 5 evA rfl (baseV evA (by decide) (by repeat (first | exact List.Mem.head _ | apply List.Mem.tail)) hwd) (by decide) clA ofA)) (by repeat (first | exact Pick.nil | exact Take.here | apply Pick.cons | apply Take.there))) ?_
  rintro _ _ ⟨_, ⟨v, R, hR, hl, rfl, rfl⟩, rfl⟩
  refine O_qs (q_move rfl) ?_
  refine O_qs (q_extract rfl rfl) ?_
  refine O_qs (q_extract rfl rfl) ?_
  refine O_qs (q_assign rfl) ?_
  refine O_qs (q_assign rfl) ?_
  refine O_nil ?_
  refine W_seq ?_
  refine W_reg rfl ?_
  refine O_qs (q_build rfl (bld_32 (cs := [_, _, _, _, _, _, _, _, _, _, _, _, _]) rfl)) ?_
  refine O_es (e_bslice (zl := [.int .i64 0, .int .i64 0, .bool false, .int .i64 0, .int .u64 0, .int .u64 0, .int .i64 0, .int .i64 0, .bool false, .bool false, .int .i64 0, .bool false, .int .u64 0]) (cs := [_, _, _, _, _, _, _, _, _, _, _, _, _]) Try.runUnderlying22 Try.sizeOf32 Try.zeroValue32 rfl (by kernel_rfl) rfl rfl) ?_
  rintro _ _ ⟨b25, rfl, rfl⟩
  obtain ⟨g, cap, rfl⟩ := hR.ptr (by decide)
  refine O_qs (q_cf Try.call7 rfl (fun wd hwd => (hist_Of_none _ (some ⟨b25, 0, none⟩) 1 1 evB rfl (baseV evB (by decide) (by repeat (first | exact List.Mem.head _ | apply List.Mem.tail)) hwd) (by decide) ofB)) (by repeat (first | exact Pick.nil | exact Take.here | apply Pick.cons | apply Take.there))) ?_
  refine O_qs (q_move rfl) ?_
  refine O_qs (q_extract rfl rfl) ?_
  refine O_qs (q_extract rfl rfl) ?_
  refine O_qs (q_assign rfl) ?_
  refine O_qs (q_assign rfl) ?_
  refine O_nil ?_
  refine W_seq ?_
  refine W_reg rfl ?_
  refine O_qs (q_move rfl) ?_
  have hks : ∀ xs, xs.Perm ((keyAll clA).map (·.1)) → SortOk xs := fun xs hx => sortOk_small (by rw [hx.length_eq, keysA]; decide)
  refine O_es (e_cf Try.call19 rfl (fun wd hwd => (hist_Keys _ (some ⟨g, 0, none⟩) 2 cap clA rfl (hR.base (by repeat (first | exact List.Mem.head _ | apply List.Mem.tail)) hwd) (by decide) hks)) (by repeat (first | exact Pick.nil | exact Take.here | apply Pick.cons | apply Take.there))) ?_
  rintro _ _ ⟨_, ⟨ys, R2, hp, hpw, hR2, rfl⟩, rfl⟩
  refine O_qs (q_assign rfl) ?_
  refine O_nil ?_
  refine W_seq ?_
  refine W_draw [[], [0], [0, 1], [0, 1, 2], [0, 1, 2, 3], [0, 1, 2, 3, 4], [0, 1, 2, 3, 4, 5], [0, 1, 2, 3, 4, 5, 6], [0, 1, 2, 3, 4, 5, 6, 7], [0, 1, 2, 3, 4, 5, 6, 7, 8], [0, 1, 2, 3, 4, 5, 6, 7, 8, 9], [0, 1, 2, 3, 4, 5, 6, 7], [0, 1, 2, 3, 4, 5, 6, 7, 11], [0, 1, 2, 3, 4, 5, 6, 7, 8, 9, 10, 11, 12], [0, 1, 2, 3, 4, 5, 6, 7, 8, 9, 10, 11, 12, 13], [0, 1, 2, 3, 4, 5, 6, 7, 8, 9, 10, 11, 12, 13, 14], [0, 1, 2, 3, 4, 5, 6, 7, 8, 9, 10, 11, 12, 13, 14, 15], [0, 1, 2, 3, 4, 5, 6, 7, 8, 9, 10, 11, 12, 13, 14, 15, 16], [0, 1, 2, 3, 4, 5, 6, 7, 8, 9, 10, 11, 12, 13, 14, 15, 16, 17], [0, 1, 2, 3, 4, 5, 6, 7, 8, 9, 10, 11, 12, 13, 14, 15], [0, 1, 2, 3, 4, 5, 6, 7, 8, 9, 10, 11, 12, 13, 14, 15], [0, 1, 2, 3, 4, 5, 6, 7, 8, 9, 10, 11, 12, 13, 14, 15, 19, 20], [0, 1, 2, 3, 4, 5, 6, 7, 8, 9, 10, 11, 12, 13, 14, 15, 16, 17, 18, 19, 20, 21], [0, 1, 2, 3, 4, 5, 6, 7, 8, 9, 10, 11, 12, 13, 14, 15, 16, 17, 18, 19, 20, 21, 22], [0, 1, 2, 3, 4, 5, 6, 7, 8, 9, 10, 11, 12, 13, 14, 15, 16, 17, 18, 19, 20, 21, 22, 23], [0, 1, 2, 3, 4, 5, 6, 7, 8, 9, 10, 11, 12, 13, 14, 15, 16, 17, 18, 19, 20, 21, 22, 23, 24], [0, 1, 2, 3, 4, 5, 6, 7, 8, 9, 10, 11, 12, 13, 14, 15, 16, 17, 18, 19, 20, 21, 22, 23, 24, 25], [0, 1, 2, 3, 4, 5, 6, 7, 8, 9, 10, 11, 12, 13, 14, 15, 16, 17, 18, 19, 20, 21, 22, 23, 24, 25, 26], [0, 1, 2, 3, 4, 5, 6, 7, 8, 9, 10, 11, 12, 13, 14, 15, 16, 17, 18, 19, 20, 21, 22, 23, 24, 25, 26, 27], [0, 1, 2, 3, 4, 5, 6, 7, 8, 9, 10, 11, 12, 13, 14, 15, 16, 17, 18, 19, 20, 21, 22, 23, 24, 25, 26, 27, 28], [0, 1, 2, 3, 4, 5, 6, 7, 8, 9, 10, 11, 12, 13, 14, 15, 16, 17, 18, 19, 20, 21, 22, 23, 24, 25, 26, 27, 28, 29], [0, 1, 2, 3, 4, 5, 6, 7, 8, 9, 10, 11, 12, 13, 14, 15, 16, 17, 18, 19, 20, 21, 22, 23, 24, 25, 26, 27, 28, 29, 30], [0, 1, 2, 3, 4, 5, 6, 7, 8, 9, 10, 11, 12, 13, 14, 15, 16, 17, 18, 19, 20, 21, 22, 23, 24, 25, 26, 27, 28, 29, 30, 31], [0, 1, 2, 3, 4, 5, 6, 7, 8, 9, 10, 11, 12, 13, 14, 15, 16, 17, 18, 19, 20, 21, 22, 23, 24, 25, 26, 27, 28, 29, 30, 31, 32], [0, 1, 2, 3, 4, 5, 6, 7, 8, 9, 10, 11, 12, 13, 14, 15, 16, 17, 18, 19, 20, 21, 22, 23, 24, 25, 26, 27, 28, 29, 30, 31, 32, 33], [0, 1, 2, 3, 4, 5, 6, 7, 8, 9, 10, 11, 12, 13, 14, 15, 16, 17, 18, 19, 20, 21, 22, 23, 24, 25, 26, 27, 28, 29, 30, 31, 32, 33, 34], [0, 1, 2, 3, 4, 5, 6, 7, 8, 9, 10, 11, 12, 13, 14, 15, 16, 17, 18, 19, 20, 21, 22, 23, 24, 25, 26, 27, 28, 29, 30, 31, 32, 33, 34, 35], [0, 1, 2, 3, 4, 5, 6, 7, 8, 9, 10, 11, 12, 13, 14, 15, 16, 17, 18, 19, 20, 21, 22, 23, 24, 25, 26, 27, 28, 29, 30, 31, 32, 33, 34, 35, 36], [0, 1, 2, 3, 4, 5, 6, 7, 8, 9, 10, 11, 12, 13, 14, 15, 16, 17, 18, 19, 20, 21, 22, 23, 24, 25, 26, 27, 28, 29, 30, 31, 32, 33, 34, 35, 36, 37], [0, 1, 2, 3, 4, 5, 6, 7, 8, 9, 10, 11, 12, 13, 14, 15, 16, 17, 18, 19, 20, 21, 22, 23, 24, 25, 26, 27, 28, 29, 30, 31, 32, 33, 34, 35, 36, 37, 38], [0, 1, 2, 3, 4, 5, 6, 7, 8, 9, 10, 11, 12, 13, 14, 15, 16, 17, 18, 19, 20, 21, 22, 23, 24, 25, 26, 27, 28, 29, 30, 31, 32, 33, 34, 35, 36, 37, 38, 39], [0, 1, 2, 3, 4, 5, 6, 7, 8, 9, 10, 11, 12, 13, 14, 15, 16, 17, 18, 19, 20, 21, 22, 23, 24, 25, 26, 27, 28, 29, 30, 31, 32, 33, 34, 35, 36, 37, 38, 39, 40], [0, 1, 2, 3, 4, 5, 6, 7, 8, 9, 10, 11, 12, 13, 14, 15, 16, 17, 18, 19, 20, 21, 22, 23, 24, 25, 26, 27, 28, 29, 30, 31, 32, 33, 34, 35, 36, 37, 38, 39, 40, 41], [0, 1, 2, 3, 4, 5, 6, 7, 8, 9, 10, 11, 12, 13, 14, 15, 16, 17, 18, 19, 20, 21, 22, 23, 24, 25, 26, 27, 28, 29, 30, 31, 32, 33, 34, 35, 36, 37, 38, 39, 40, 41, 42], [0, 1, 2, 3, 4, 5, 6, 7, 8, 9, 10, 11, 12, 13, 14, 15, 16, 17, 18, 19, 20, 21, 22, 23, 24, 25, 26, 27, 28, 29, 30, 31, 32, 33, 34, 35, 36, 37, 38, 39, 40, 41, 42, 43], [0, 1, 2, 3, 4, 5, 6, 7, 8, 9, 10, 11, 12, 13, 14, 15, 16, 17, 18, 19, 20, 21, 22, 23, 24, 25, 26, 27, 28, 29, 30, 31, 32, 33, 34, 35, 36, 37, 38, 39, 40, 41, 42, 43, 44], [0, 1, 2, 3, 4, 5, 6, 7, 8, 9, 10, 11, 12, 13, 14, 15, 16, 17, 18, 19, 20, 21, 22, 23, 24, 25, 26, 27, 28, 29, 30, 31, 32, 33, 34, 35, 36, 37, 38, 39, 40, 41, 42, 43, 44, 45], [0, 1, 2, 3, 4, 5, 6, 7, 8, 9, 10, 11, 12, 13, 14, 15, 16, 17, 18, 19, 20, 21, 22, 23, 24, 25, 26, 27, 28, 29, 30, 31, 32, 33, 34, 35, 36, 37, 38, 39, 40, 41, 42, 43, 44, 45, 46], [0, 1, 2, 3, 4, 5, 6, 7, 8, 9, 10, 11, 12, 13, 14, 15, 16, 17, 18, 19, 20, 21, 22, 23, 24, 25, 26, 27, 28, 29, 30, 31, 32, 33, 34, 35, 36, 37, 38, 39, 40, 41, 42, 43, 44, 45, 46, 47], [0, 1, 2, 3, 4, 5, 6, 7, 8, 9, 10, 11, 12, 13, 14, 15, 16, 17, 18, 19, 20, 21, 22, 23, 24, 25, 26, 27, 28, 29, 30, 31, 32, 33, 34, 35, 36, 37, 38, 39, 40, 41, 42, 43, 44, 45, 46, 47, 48], [0, 1, 2, 3, 4, 5, 6, 7, 8, 9, 10, 11, 12, 13, 14, 15, 16, 17, 18, 19, 20, 21, 22, 23, 24, 25, 26, 27, 28, 29, 30, 31, 32, 33, 34, 35, 36, 37, 38, 39, 40, 41, 42, 43, 44, 45, 46, 47, 48, 49], [0, 1, 2, 3, 4, 5, 6, 7, 8, 9, 10, 11, 12, 13, 14, 15, 16, 17, 18, 19, 20, 21, 22, 23, 24, 25, 26, 27, 28, 29, 30, 31, 32, 33, 34, 35, 36, 37, 38, 39, 40, 41, 42, 43, 44, 45, 46, 47, 48, 49, 50], [0, 1, 2, 3, 4, 5, 6, 7, 8, 9, 10, 11, 12, 13, 14, 15, 16, 17, 18, 19, 20, 21, 22, 23, 24, 25, 26, 27, 28, 29, 30, 31, 32, 33, 34, 35, 36, 37, 38, 39, 40, 41, 42, 43, 44, 45, 46, 47, 48, 49, 50, 51], [0, 1, 2, 3, 4, 5, 6, 7, 8, 9, 10, 11, 12, 13, 14, 15, 16, 17, 18, 19, 20, 21, 22, 23, 24, 25, 26, 27, 28, 29, 30, 31, 32, 33, 34, 35, 36, 37, 38, 39, 40, 41, 42, 43, 44, 45, 46, 47, 48, 49, 50, 51, 52], [0, 1, 2, 3, 4, 5, 6, 7, 8, 9, 10, 11, 12, 13, 14, 15, 16, 17, 18, 19, 20, 21, 22, 23, 24, 25, 26, 27, 28, 29, 30, 31, 32, 33, 34, 35, 36, 37, 38, 39, 40, 41, 42, 43, 44, 45, 46, 47, 48, 49, 50, 51, 52, 53], [0, 1, 2, 3, 4, 5, 6, 7, 8, 9, 10, 11, 12, 13, 14, 15, 16, 17, 18, 19, 20, 21, 22, 23, 24, 25, 26, 27, 28, 29, 30, 31, 32, 33, 34, 35, 36, 37, 38, 39, 40, 41, 42, 43, 44, 45, 46, 47, 48, 49, 50, 51, 52, 53, 54]] rfl rfl rfl ?_
  rw [keysA] at hp
  obtain rfl := hp.eq_singleton
  obtain ⟨g2, cap2, rfl⟩ := hR2.ptr (by decide)
  refine V.qs 0 rfl rfl (q_move rfl) ?_
  refine V.qs 1 rfl rfl (q_eql rfl rfl) ?_
  refine V.qs 2 rfl rfl (q_move rfl) ?_
  refine V.qs 3 rfl rfl (QY.cond0 rfl rfl rfl (fun H => q_move rfl)) ?_
  refine V.qs 4 rfl rfl (QY.cond0 rfl rfl rfl (fun H => q_len Try.runUnderlying35 (gvh rfl H))) ?_
  refine V.qs 5 rfl rfl (QY.cond0 rfl rfl rfl (fun H => q_eql (gvh rfl H) rfl)) ?_
  refine V.qs 6 rfl rfl (q_and rfl rfl rfl) ?_
  refine V.qs 7 rfl rfl (q_move rfl) ?_
  refine V.qs 8 rfl rfl (QY.cond0 rfl rfl rfl (fun H => q_move rfl)) ?_
  refine V.qs 9 rfl rfl (QY.cond0 rfl rfl rfl (fun H => q_ian Try.runUnderlying35 Try.sizeOf44 (gvh rfl H) rfl (by decide))) ?_
  refine V.qs 10 rfl rfl (QY.cond0 rfl rfl rfl (fun H => q_loadN (vs := HCall.l ⟨0, 0, opA, 0, 2, Ans.zero⟩) Try.isAgg44 Try.sizeOf44 (gvh rfl H) (hR.rds (by repeat (first | exact List.Mem.head _ | apply List.Mem.tail)) (i := 0) (a := ⟨0, 0, opA, 0, 2, Ans.zero⟩) rfl rfl))) ?_
  refine V.qs 11 rfl rfl (QY.cond0 rfl rfl rfl (fun H => q_loadN (vs := [_, _, _, _]) Try.isAgg27 Try.sizeOf27 rfl (rd_range (by repeat (first | exact List.Mem.head _ | apply List.Mem.tail)) rfl))) ?_
  refine V.qs 12 rfl rfl (QY.cond0 rfl rfl rfl (fun H => q_build (ev_cons (gvh rfl H) (ev_cons rfl ev_nil)) (bld_44 (cs := [_, _, _, _, _, _, _, _, _, _, _]) rfl))) ?_
  refine V.qs 13 rfl rfl (QY.cond0 rfl rfl rfl (fun H => q_bin eql_44 (gvh rfl H) (gvh rfl H))) ?_
  refine V.qs 14 rfl rfl (q_and rfl rfl rfl) ?_
  refine V.qs 15 rfl rfl (q_move rfl) ?_
  refine V.qs 16 rfl rfl (QY.cond0 rfl rfl rfl (fun H => q_move rfl)) ?_
  refine V.qs 17 rfl rfl (QY.cond0 rfl rfl rfl (fun H => q_ian Try.runUnderlying35 Try.sizeOf44 (gvh rfl H) rfl (by decide))) ?_
  refine V.qs 18 rfl rfl (QY.cond0 rfl rfl rfl (fun H => q_loadN (vs := HCall.l ⟨1, 0, opA, 1, 4, ⟨0, true, 0⟩⟩) Try.isAgg44 Try.sizeOf44 (gvh rfl H) (hR.rds (by repeat (first | exact List.Mem.head _ | apply List.Mem.tail)) (i := 1) (a := ⟨1, 0, opA, 1, 4, ⟨0, true, 0⟩⟩) rfl rfl))) ?_
  refine V.qs 19 rfl rfl (QY.cond0 rfl rfl rfl (fun H => q_loadN (vs := [_, _, _, _]) Try.isAgg27 Try.sizeOf27 rfl (rd_range (by repeat (first | exact List.Mem.head _ | apply List.Mem.tail)) rfl))) ?_
  refine V.qs 20 rfl rfl (QY.cond0 rfl rfl rfl (fun H => q_build rfl (bld_30 (cs := [_, _, _]) rfl))) ?_
  refine V.qs 21 rfl rfl (QY.cond0 rfl rfl rfl (fun H => q_build (ev_cons rfl (ev_cons (gvh rfl H) (ev_cons rfl (ev_cons rfl (ev_cons (gvh rfl H) ev_nil))))) (bld_44 (cs := [_, _, _, _, _, _, _, _, _, _, _]) rfl))) ?_
  refine V.qs 22 rfl rfl (QY.cond0 rfl rfl rfl (fun H => q_bin eql_44 (gvh rfl H) (gvh rfl H))) ?_
  refine V.qs 23 rfl rfl (q_and rfl rfl rfl) ?_
  refine V.qs 24 rfl rfl (q_move rfl) ?_
  refine V.qs 25 rfl rfl (QY.cond0 rfl rfl rfl (fun H => q_move rfl)) ?_
  refine V.qs 26 rfl rfl (QY.cond0 rfl rfl rfl (fun H => q_eql (gvh rfl H) rfl)) ?_
  refine V.qs 27 rfl rfl (q_and rfl rfl rfl) ?_
  refine V.qs 28 rfl rfl (q_move rfl) ?_
  refine V.qs 29 rfl rfl (QY.cond0 rfl rfl rfl (fun H => q_move rfl)) ?_
  have hcap := row_cap hR
  refine V.qs 30 rfl rfl (QY.cond0 rfl rfl rfl (fun H => q_cf Try.call18 (ev_cons (gvh rfl H) ev_nil) (fun wd hwd => (hist_Overlaps _ (some ⟨g, 0, none⟩) 2 cap clA rfl (hR.base (by repeat (first | exact List.Mem.head _ | apply List.Mem.tail)) hwd) (by decide) hcap)) (by repeat (first | exact Pick.nil | exact Take.here | apply Pick.cons | apply Take.there)))) ?_
  refine V.qs 31 rfl rfl (QY.cond0 rfl rfl rfl (fun H => q_eql (gvh rfl H) rfl)) ?_
  refine V.qs 32 rfl rfl (q_and rfl rfl rfl) ?_
  refine V.qs 33 rfl rfl (q_move rfl) ?_
  refine V.qs 34 rfl rfl (QY.cond0 rfl rfl rfl (fun H => q_move rfl)) ?_
  rw [ovA]
  refine V.qs 35 rfl rfl (QY.cond0 rfl rfl rfl (fun H => q_cf Try.call10 (ev_cons (gvh rfl H) ev_nil) (fun wd hwd => (hist_Check _ (some ⟨g, 0, none⟩) 2 cap clA rfl (hR.base (by repeat (first | exact List.Mem.head _ | apply List.Mem.tail)) hwd) (by decide) hcap)) (by repeat (first | exact Pick.nil | exact Take.here | apply Pick.cons | apply Take.there)))) ?_
  refine V.qs 36 rfl rfl (QY.cond0 rfl rfl rfl (fun H => q_eql (gvh rfl H) rfl)) ?_
  refine V.qs 37 rfl rfl (q_and rfl rfl rfl) ?_
  refine V.qs 38 rfl rfl (q_move rfl) ?_
  refine V.qs 39 rfl rfl (QY.cond0 rfl rfl rfl (fun H => q_move rfl)) ?_
  refine V.qs 40 rfl rfl (QY.cond0 rfl rfl rfl (fun H => q_len Try.runUnderlying55 (gvh rfl H))) ?_
  refine V.qs 41 rfl rfl (QY.cond0 rfl rfl rfl (fun H => q_eql (gvh rfl H) rfl)) ?_
  refine V.qs 42 rfl rfl (q_and rfl rfl rfl) ?_
  refine V.qs 43 rfl rfl (q_move rfl) ?_
  refine V.qs 44 rfl rfl (QY.cond0 rfl rfl rfl (fun H => q_move rfl)) ?_
  refine V.qs 45 rfl rfl (QY.cond0 rfl rfl rfl (fun H => q_ian Try.runUnderlying55 Try.sizeOf25 (gvh rfl H) rfl (by decide))) ?_
  refine V.qs 46 rfl rfl (QY.cond0 rfl rfl rfl (fun H => q_load Try.isAgg25 (gvh rfl H) (hR2.rd (by repeat (first | exact List.Mem.head _ | apply List.Mem.tail)) (i := 0) (j := 0) (a := 4) rfl rfl rfl))) ?_
  refine V.qs 47 rfl rfl (QY.cond0 rfl rfl rfl (fun H => q_eql (gvh rfl H) rfl)) ?_
  refine V.qs 48 rfl rfl (q_and rfl rfl rfl) ?_
  refine V.qs 49 rfl rfl (q_move rfl) ?_
  rw [okA]
  refine V.qs 50 rfl rfl (QY.guard rfl rfl rfl (q_move rfl)) ?_
  refine V.e1s 51 [] rfl rfl rfl (EY.guard rfl rfl rfl (e_cf Try.call15 rfl (fun wd hwd => (hist_Open _ (some ⟨g, 0, none⟩) 2 cap clA rfl (hR.base (by repeat (first | exact List.Mem.head _ | apply List.Mem.tail)) hwd) (by decide))) (by repeat (first | exact Pick.nil | exact Take.here | apply Pick.cons | apply Take.there)))) ?_
  rintro _ _ ⟨_, ⟨R3, hR3, rfl⟩, rfl⟩
  refine ⟨st_nil, ?_⟩
  rw [opnA] at hR3
  obtain ⟨a3, c3, rfl⟩ := hR3.len
  refine V.qs 52 rfl rfl (QY.guard rfl rfl rfl (q_len Try.runUnderlying35 rfl)) ?_
  refine V.qs 53 rfl rfl (QY.guard rfl rfl rfl (q_eql rfl rfl)) ?_
  refine V.qs 54 rfl rfl (q_pick_t rfl rfl) ?_
  refine V.qs 55 rfl rfl (q_assign rfl) ?_
  refine V.fin rfl ?_
  refine W_ret ?_
  refine res1 (c0 := []) rfl rfl (by repeat (first | exact Pick.nil | exact Take.here | apply Pick.cons | apply Take.there)) rfl ?_
  exact ⟨rfl, rfl⟩
end Go.Proofs.Ytolcdmbjddekeaa
