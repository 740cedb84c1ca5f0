/-
  No cell of these rows narrows 'for every input' (looked for: loops, veiled, ifaces, maps, wideKeys, modest, calm, conditions, laid).
  DERIVED. THE GIVEN ROWS OF THIS SEAT. 4 by the template 'for every input the law returns true; each argument reads behind the call as it read before'; 0 by the template 'total and deterministic' (their statements: YtfmamedkiaimpaaTotals.lean).
  GIVEN WITH THE SEED: the statements are not yours to turn. If you find one false, say at which input.
  Laid BY PROGRAM, IN A SANDBOX (cutbox-rows.mjs): the forced cells as the released guide's own fill.sh prints them over the translation 4822f5764bcff303… (all of the seat's roots in one cut). By AI agents, Wed Nov 11 2026. No macro, syntax, notation, axiom, sorry.
-/
import Derived.Test.YtfmamedkiaimpaaChecked
import GoSem.Claim
import GoSem.ClaimJoined
import GoSem.ClaimMapViews
import Derived.JoinedTies
import Derived.KernelRfl
namespace Go.Proofs.Ytfmamedkiaimpaa
/- THE CELL 'sum', in the pinned program and in every row, IS THE sha256 OF THE DUMP (.gsa) THAT YtfmamedkiaimpaaProg.lean LOADS. Nothing in Lean hashes anything: it is a label: what it is worth is what the hold of that sum in a sandbox is worth. -/
noncomputable def Try.pinned : Pinned := { name := "ytfmamedkiaimpaa", sum := "4822f5764bcff303102d842b1aaa5e9d4581188fc080ade6c967e6c2c1b84dce", checked := Try.checked }
namespace Rows
def none {H : Type} : Left H := { results := [], args := [] }

/-- 'syncopelaw16.NorecReads': WHATEVER THE INPUT: true; the input reads as it did. -/
def norecReadsSpec : ChangeSpec := { name := "norecReads", fn := fun _ => fun
  | [d1, d2, d3] => { results := [.lit (.bool true)], args := [d1, d2, d3] }
  | _ => none }
def norecReadsRow : OpenClaim := { program := "ytfmamedkiaimpaa", sum := "4822f5764bcff303102d842b1aaa5e9d4581188fc080ade6c967e6c2c1b84dce", func := "syncope/syncopelaw16.NorecReads", spec := "norecReads", apart := false }
def NorecReadsSaid : Prop := norecReadsRow.holds Try.pinned (OpenSpec.ofChange norecReadsSpec)

/-- ITS FALSE NEIGHBOUR: 'it returns false'. Refute it at one input. -/
def norecReadsWrong : ChangeSpec := { name := "norecReads", fn := fun _ => fun
  | [d1, d2, d3] => { results := [.lit (.bool false)], args := [d1, d2, d3] }
  | _ => none }
def NorecReadsWrongFalsely : Prop := norecReadsRow.holds Try.pinned (OpenSpec.ofChange norecReadsWrong)

/-- 'syncopelaw16.NorecWatch': WHATEVER THE INPUT: true; the input reads as it did. -/
def norecWatchSpec : ChangeSpec := { name := "norecWatch", fn := fun _ => fun
  | [d1, d2, d3] => { results := [.lit (.bool true)], args := [d1, d2, d3] }
  | _ => none }
def norecWatchRow : OpenClaim := { program := "ytfmamedkiaimpaa", sum := "4822f5764bcff303102d842b1aaa5e9d4581188fc080ade6c967e6c2c1b84dce", func := "syncope/syncopelaw16.NorecWatch", spec := "norecWatch", apart := false }
def NorecWatchSaid : Prop := norecWatchRow.holds Try.pinned (OpenSpec.ofChange norecWatchSpec)

/-- ITS FALSE NEIGHBOUR: 'it returns false'. Refute it at one input. -/
def norecWatchWrong : ChangeSpec := { name := "norecWatch", fn := fun _ => fun
  | [d1, d2, d3] => { results := [.lit (.bool false)], args := [d1, d2, d3] }
  | _ => none }
def NorecWatchWrongFalsely : Prop := norecWatchRow.holds Try.pinned (OpenSpec.ofChange norecWatchWrong)

/-- 'syncopelaw16.NorecAlone': WHATEVER THE INPUT: true; the input reads as it did. -/
def norecAloneSpec : ChangeSpec := { name := "norecAlone", fn := fun _ => fun
  | [d1, d2] => { results := [.lit (.bool true)], args := [d1, d2] }
  | _ => none }
def norecAloneRow : OpenClaim := { program := "ytfmamedkiaimpaa", sum := "4822f5764bcff303102d842b1aaa5e9d4581188fc080ade6c967e6c2c1b84dce", func := "syncope/syncopelaw16.NorecAlone", spec := "norecAlone", apart := false }
def NorecAloneSaid : Prop := norecAloneRow.holds Try.pinned (OpenSpec.ofChange norecAloneSpec)

/-- ITS FALSE NEIGHBOUR: 'it returns false'. Refute it at one input. -/
def norecAloneWrong : ChangeSpec := { name := "norecAlone", fn := fun _ => fun
  | [d1, d2] => { results := [.lit (.bool false)], args := [d1, d2] }
  | _ => none }
def NorecAloneWrongFalsely : Prop := norecAloneRow.holds Try.pinned (OpenSpec.ofChange norecAloneWrong)

/-- 'syncopelaw16.NorecUndo': WHATEVER THE INPUT: true; the input reads as it did. -/
def norecUndoSpec : ChangeSpec := { name := "norecUndo", fn := fun _ => fun
  | [d1, d2, d3, d4] => { results := [.lit (.bool true)], args := [d1, d2, d3, d4] }
  | _ => none }
def norecUndoRow : OpenClaim := { program := "ytfmamedkiaimpaa", sum := "4822f5764bcff303102d842b1aaa5e9d4581188fc080ade6c967e6c2c1b84dce", func := "syncope/syncopelaw16.NorecUndo", spec := "norecUndo", apart := false }
def NorecUndoSaid : Prop := norecUndoRow.holds Try.pinned (OpenSpec.ofChange norecUndoSpec)

/-- ITS FALSE NEIGHBOUR: 'it returns false'. Refute it at one input. -/
def norecUndoWrong : ChangeSpec := { name := "norecUndo", fn := fun _ => fun
  | [d1, d2, d3, d4] => { results := [.lit (.bool false)], args := [d1, d2, d3, d4] }
  | _ => none }
def NorecUndoWrongFalsely : Prop := norecUndoRow.holds Try.pinned (OpenSpec.ofChange norecUndoWrong)

/- THE SECOND FORM. 'bulk': how many values and letters a reading holds, each counted each time it is reached (what is shared counts as often as it is met; a slice's spare places count too). A statement '..UptoSaid' is the law's where the arguments, and the package variables that the reading takes, are together of bulk at most 1048576: NARROWER than '..Said'. Prove '..Said' where nothing that the law and all that it calls make is longer than what came in: it says more and counts as full. Else prove '..UptoSaid'. A law counts once. -/
mutual
def uptoBulk {H : Type} : DataW H → Nat
  | .lit (.string bytes) => bytes.length + 1
  | .lit _ => 1
  | .nil => 1
  | .ptr d => uptoBulk d + 1
  | .slice elems spare => uptoBulkAll elems + uptoBulkAll spare + 1
  | .agg parts => uptoBulkAll parts + 1
  | .iface _ d => uptoBulk d + 1
  | .map entries => uptoBulkEntries entries + 1
  | .held _ => 1
def uptoBulkAll {H : Type} : List (DataW H) → Nat
  | [] => 0
  | d :: r => uptoBulk d + uptoBulkAll r
def uptoBulkEntries {H : Type} : List (Lit × DataW H) → Nat
  | [] => 0
  | x :: r => uptoBulkEntry x + uptoBulkEntries r
def uptoBulkEntry {H : Type} : Lit × DataW H → Nat
  | (.string bytes, d) => bytes.length + uptoBulk d + 1
  | (_, d) => uptoBulk d + 1
 end
def uptoSmall : (H : Type) → List (DataW H) → Bool := fun _ ds => decide (uptoBulkAll ds ≤ 1048576)
def OpenSpec.upto (s : _root_.Go.ChangeSpec) : _root_.Go.OpenSpec := { _root_.Go.OpenSpec.ofChange s with cond := some uptoSmall }

/-- 'syncopelaw16.NorecReads', WHERE WHAT IT READS IS OF BULK AT MOST 1048576: true; the input reads as it did. -/
def norecReadsUptoRow : OpenClaim := { program := "ytfmamedkiaimpaa", sum := "4822f5764bcff303102d842b1aaa5e9d4581188fc080ade6c967e6c2c1b84dce", func := "syncope/syncopelaw16.NorecReads", spec := "norecReads", apart := false, narrowed := true }
def NorecReadsUptoSaid : Prop := norecReadsUptoRow.holds Try.pinned (OpenSpec.upto norecReadsSpec)

/-- 'syncopelaw16.NorecWatch', WHERE WHAT IT READS IS OF BULK AT MOST 1048576: true; the input reads as it did. -/
def norecWatchUptoRow : OpenClaim := { program := "ytfmamedkiaimpaa", sum := "4822f5764bcff303102d842b1aaa5e9d4581188fc080ade6c967e6c2c1b84dce", func := "syncope/syncopelaw16.NorecWatch", spec := "norecWatch", apart := false, narrowed := true }
def NorecWatchUptoSaid : Prop := norecWatchUptoRow.holds Try.pinned (OpenSpec.upto norecWatchSpec)

/-- 'syncopelaw16.NorecAlone', WHERE WHAT IT READS IS OF BULK AT MOST 1048576: true; the input reads as it did. -/
def norecAloneUptoRow : OpenClaim := { program := "ytfmamedkiaimpaa", sum := "4822f5764bcff303102d842b1aaa5e9d4581188fc080ade6c967e6c2c1b84dce", func := "syncope/syncopelaw16.NorecAlone", spec := "norecAlone", apart := false, narrowed := true }
def NorecAloneUptoSaid : Prop := norecAloneUptoRow.holds Try.pinned (OpenSpec.upto norecAloneSpec)

/-- 'syncopelaw16.NorecUndo', WHERE WHAT IT READS IS OF BULK AT MOST 1048576: true; the input reads as it did. -/
def norecUndoUptoRow : OpenClaim := { program := "ytfmamedkiaimpaa", sum := "4822f5764bcff303102d842b1aaa5e9d4581188fc080ade6c967e6c2c1b84dce", func := "syncope/syncopelaw16.NorecUndo", spec := "norecUndo", apart := false, narrowed := true }
def NorecUndoUptoSaid : Prop := norecUndoUptoRow.holds Try.pinned (OpenSpec.upto norecUndoSpec)

end Rows
end Go.Proofs.Ytfmamedkiaimpaa
