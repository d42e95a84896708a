/-
  No cell of these rows narrows 'for every input' (looked for: loops, veiled, ifaces, maps, wideKeys, modest, calm, conditions, laid).
  DERIVED. THE GIVEN ROWS OF THIS SEAT. 4 by the template 'for every input the law returns true; each argument reads behind the call as it read before'; 0 by the template 'total and deterministic' (their statements: YtaphhhnnplljdaaTotals.lean).
  GIVEN WITH THE SEED: the statements are not yours to turn. If you find one false, say at which input.
  Laid BY PROGRAM, IN A SANDBOX (cutbox-rows.mjs): the forced cells as the released guide's own fill.sh prints them over the translation 34f6ccdd94dad9e8… (all of the seat's roots in one cut). By AI agents, Wed Nov 11 2026. No macro, syntax, notation, axiom, sorry.
-/
import Derived.Test.YtaphhhnnplljdaaChecked
import GoSem.Claim
import GoSem.ClaimJoined
import GoSem.ClaimMapViews
import Derived.JoinedTies
import Derived.KernelRfl
namespace Go.Proofs.Ytaphhhnnplljdaa
/- THE CELL 'sum', in the pinned program and in every row, IS THE sha256 OF THE DUMP (.gsa) THAT YtaphhhnnplljdaaProg.lean LOADS. Nothing in Lean hashes anything: it is a label: what it is worth is what the hold of that sum in a sandbox is worth. -/
noncomputable def Try.pinned : Pinned := { name := "ytaphhhnnplljdaa", sum := "34f6ccdd94dad9e82da1977c39ba8885e1f9025b14786dcf05396b9f75c4533e", checked := Try.checked }
namespace Rows
def none {H : Type} : Left H := { results := [], args := [] }

/-- 'revenantlaw13.CoreExact': WHATEVER THE INPUT: true; the input reads as it did. -/
def coreExactSpec : ChangeSpec := { name := "coreExact", fn := fun _ => fun
  | [d1, d2] => { results := [.lit (.bool true)], args := [d1, d2] }
  | _ => none }
def coreExactRow : OpenClaim := { program := "ytaphhhnnplljdaa", sum := "34f6ccdd94dad9e82da1977c39ba8885e1f9025b14786dcf05396b9f75c4533e", func := "revenant/revenantlaw13.CoreExact", spec := "coreExact", unfollowed := true, recurses := true, plainKeys := false, apart := false }
def CoreExactSaid : Prop := coreExactRow.holds Try.pinned (OpenSpec.ofChange coreExactSpec)

/-- ITS FALSE NEIGHBOUR: 'it returns false'. Refute it at one input. -/
def coreExactWrong : ChangeSpec := { name := "coreExact", fn := fun _ => fun
  | [d1, d2] => { results := [.lit (.bool false)], args := [d1, d2] }
  | _ => none }
def CoreExactWrongFalsely : Prop := coreExactRow.holds Try.pinned (OpenSpec.ofChange coreExactWrong)

/-- 'revenantlaw15.SeekAlone': WHATEVER THE INPUT: true; the input reads as it did. -/
def seekAloneSpec : ChangeSpec := { name := "seekAlone", fn := fun _ => fun
  | [d1, d2] => { results := [.lit (.bool true)], args := [d1, d2] }
  | _ => none }
def seekAloneRow : OpenClaim := { program := "ytaphhhnnplljdaa", sum := "34f6ccdd94dad9e82da1977c39ba8885e1f9025b14786dcf05396b9f75c4533e", func := "revenant/revenantlaw15.SeekAlone", spec := "seekAlone", unfollowed := true, recurses := true, plainKeys := false, apart := false }
def SeekAloneSaid : Prop := seekAloneRow.holds Try.pinned (OpenSpec.ofChange seekAloneSpec)

/-- ITS FALSE NEIGHBOUR: 'it returns false'. Refute it at one input. -/
def seekAloneWrong : ChangeSpec := { name := "seekAlone", fn := fun _ => fun
  | [d1, d2] => { results := [.lit (.bool false)], args := [d1, d2] }
  | _ => none }
def SeekAloneWrongFalsely : Prop := seekAloneRow.holds Try.pinned (OpenSpec.ofChange seekAloneWrong)

/-- 'revenantlaw15.SeekFrozen': WHATEVER THE INPUT: true; the input reads as it did. -/
def seekFrozenSpec : ChangeSpec := { name := "seekFrozen", fn := fun _ => fun
  | [d1, d2, d3, d4, d5] => { results := [.lit (.bool true)], args := [d1, d2, d3, d4, d5] }
  | _ => none }
def seekFrozenRow : OpenClaim := { program := "ytaphhhnnplljdaa", sum := "34f6ccdd94dad9e82da1977c39ba8885e1f9025b14786dcf05396b9f75c4533e", func := "revenant/revenantlaw15.SeekFrozen", spec := "seekFrozen", unfollowed := true, recurses := true, plainKeys := false, apart := false }
def SeekFrozenSaid : Prop := seekFrozenRow.holds Try.pinned (OpenSpec.ofChange seekFrozenSpec)

/-- ITS FALSE NEIGHBOUR: 'it returns false'. Refute it at one input. -/
def seekFrozenWrong : ChangeSpec := { name := "seekFrozen", fn := fun _ => fun
  | [d1, d2, d3, d4, d5] => { results := [.lit (.bool false)], args := [d1, d2, d3, d4, d5] }
  | _ => none }
def SeekFrozenWrongFalsely : Prop := seekFrozenRow.holds Try.pinned (OpenSpec.ofChange seekFrozenWrong)

/-- 'revenantlaw18.TowerShort': WHATEVER THE INPUT: true; the input reads as it did. -/
def towerShortSpec : ChangeSpec := { name := "towerShort", fn := fun _ => fun
  | [d1, d2, d3] => { results := [.lit (.bool true)], args := [d1, d2, d3] }
  | _ => none }
def towerShortRow : OpenClaim := { program := "ytaphhhnnplljdaa", sum := "34f6ccdd94dad9e82da1977c39ba8885e1f9025b14786dcf05396b9f75c4533e", func := "revenant/revenantlaw18.TowerShort", spec := "towerShort", unfollowed := true, recurses := true, plainKeys := false, apart := false }
def TowerShortSaid : Prop := towerShortRow.holds Try.pinned (OpenSpec.ofChange towerShortSpec)

/-- ITS FALSE NEIGHBOUR: 'it returns false'. Refute it at one input. -/
def towerShortWrong : ChangeSpec := { name := "towerShort", fn := fun _ => fun
  | [d1, d2, d3] => { results := [.lit (.bool false)], args := [d1, d2, d3] }
  | _ => none }
def TowerShortWrongFalsely : Prop := towerShortRow.holds Try.pinned (OpenSpec.ofChange towerShortWrong)

/- THE SECOND FORM. 'bulk': how many values and letters a reading holds, each counted each time it is reached (what is shared counts as often as it is met; a slice's spare places count too). A statement '..UptoSaid' is the law's where the arguments, and the package variables that the reading takes, are together of bulk at most 1048576: NARROWER than '..Said'. Prove '..Said' where nothing that the law and all that it calls make is longer than what came in: it says more and counts as full. Else prove '..UptoSaid'. A law counts once. -/
mutual
def uptoBulk {H : Type} : DataW H → Nat
  | .lit (.string bytes) => bytes.length + 1
  | .lit _ => 1
  | .nil => 1
  | .ptr d => uptoBulk d + 1
  | .slice elems spare => uptoBulkAll elems + uptoBulkAll spare + 1
  | .agg parts => uptoBulkAll parts + 1
  | .iface _ d => uptoBulk d + 1
  | .map entries => uptoBulkEntries entries + 1
  | .held _ => 1
def uptoBulkAll {H : Type} : List (DataW H) → Nat
  | [] => 0
  | d :: r => uptoBulk d + uptoBulkAll r
def uptoBulkEntries {H : Type} : List (Lit × DataW H) → Nat
  | [] => 0
  | x :: r => uptoBulkEntry x + uptoBulkEntries r
def uptoBulkEntry {H : Type} : Lit × DataW H → Nat
  | (.string bytes, d) => bytes.length + uptoBulk d + 1
  | (_, d) => uptoBulk d + 1
 end
def uptoSmall : (H : Type) → List (DataW H) → Bool := fun _ ds => decide (uptoBulkAll ds ≤ 1048576)
def OpenSpec.upto (s : _root_.Go.ChangeSpec) : _root_.Go.OpenSpec := { _root_.Go.OpenSpec.ofChange s with cond := some uptoSmall }

/-- 'revenantlaw13.CoreExact', WHERE WHAT IT READS IS OF BULK AT MOST 1048576: true; the input reads as it did. -/
def coreExactUptoRow : OpenClaim := { program := "ytaphhhnnplljdaa", sum := "34f6ccdd94dad9e82da1977c39ba8885e1f9025b14786dcf05396b9f75c4533e", func := "revenant/revenantlaw13.CoreExact", spec := "coreExact", unfollowed := true, recurses := true, plainKeys := false, apart := false, narrowed := true }
def CoreExactUptoSaid : Prop := coreExactUptoRow.holds Try.pinned (OpenSpec.upto coreExactSpec)

/-- 'revenantlaw15.SeekAlone', WHERE WHAT IT READS IS OF BULK AT MOST 1048576: true; the input reads as it did. -/
def seekAloneUptoRow : OpenClaim := { program := "ytaphhhnnplljdaa", sum := "34f6ccdd94dad9e82da1977c39ba8885e1f9025b14786dcf05396b9f75c4533e", func := "revenant/revenantlaw15.SeekAlone", spec := "seekAlone", unfollowed := true, recurses := true, plainKeys := false, apart := false, narrowed := true }
def SeekAloneUptoSaid : Prop := seekAloneUptoRow.holds Try.pinned (OpenSpec.upto seekAloneSpec)

/-- 'revenantlaw15.SeekFrozen', WHERE WHAT IT READS IS OF BULK AT MOST 1048576: true; the input reads as it did. -/
def seekFrozenUptoRow : OpenClaim := { program := "ytaphhhnnplljdaa", sum := "34f6ccdd94dad9e82da1977c39ba8885e1f9025b14786dcf05396b9f75c4533e", func := "revenant/revenantlaw15.SeekFrozen", spec := "seekFrozen", unfollowed := true, recurses := true, plainKeys := false, apart := false, narrowed := true }
def SeekFrozenUptoSaid : Prop := seekFrozenUptoRow.holds Try.pinned (OpenSpec.upto seekFrozenSpec)

/-- 'revenantlaw18.TowerShort', WHERE WHAT IT READS IS OF BULK AT MOST 1048576: true; the input reads as it did. -/
def towerShortUptoRow : OpenClaim := { program := "ytaphhhnnplljdaa", sum := "34f6ccdd94dad9e82da1977c39ba8885e1f9025b14786dcf05396b9f75c4533e", func := "revenant/revenantlaw18.TowerShort", spec := "towerShort", unfollowed := true, recurses := true, plainKeys := false, apart := false, narrowed := true }
def TowerShortUptoSaid : Prop := towerShortUptoRow.holds Try.pinned (OpenSpec.upto towerShortSpec)

end Rows
end Go.Proofs.Ytaphhhnnplljdaa
