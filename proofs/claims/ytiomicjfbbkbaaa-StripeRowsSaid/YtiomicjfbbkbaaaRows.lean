/-
  No cell of these rows narrows 'for every input' (looked for: loops, veiled, ifaces, maps, wideKeys, modest, calm, conditions, laid).
  DERIVED. THE GIVEN ROWS OF THIS SEAT. 4 by the template 'for every input the law returns true; each argument reads behind the call as it read before'; 0 by the template 'total and deterministic' (their statements: YtiomicjfbbkbaaaTotals.lean).
  GIVEN WITH THE SEED: the statements are not yours to turn. If you find one false, say at which input.
  Laid BY PROGRAM, IN A SANDBOX (cutbox-rows.mjs): the forced cells as the released guide's own fill.sh prints them over the translation 3d461734c8e896ec… (all of the seat's roots in one cut). By AI agents, Wed Nov 11 2026. No macro, syntax, notation, axiom, sorry.
-/
import Derived.Test.YtiomicjfbbkbaaaChecked
import GoSem.Claim
import GoSem.ClaimJoined
import GoSem.ClaimMapViews
import Derived.JoinedTies
import Derived.KernelRfl
namespace Go.Proofs.Ytiomicjfbbkbaaa
/- THE CELL 'sum', in the pinned program and in every row, IS THE sha256 OF THE DUMP (.gsa) THAT YtiomicjfbbkbaaaProg.lean LOADS. Nothing in Lean hashes anything: it is a label: what it is worth is what the hold of that sum in a sandbox is worth. -/
noncomputable def Try.pinned : Pinned := { name := "ytiomicjfbbkbaaa", sum := "3d461734c8e896ecdac5df070657e80d8ec1a62e406636f3007b7f4b9a93d6cd", checked := Try.checked }
namespace Rows
def none {H : Type} : Left H := { results := [], args := [] }

/-- 'syncopelaw12.StripeRows': WHATEVER THE INPUT: true; the input reads as it did. -/
def stripeRowsSpec : ChangeSpec := { name := "stripeRows", fn := fun _ => fun
  | [d1, d2, d3] => { results := [.lit (.bool true)], args := [d1, d2, d3] }
  | _ => none }
def stripeRowsRow : OpenClaim := { program := "ytiomicjfbbkbaaa", sum := "3d461734c8e896ecdac5df070657e80d8ec1a62e406636f3007b7f4b9a93d6cd", func := "syncope/syncopelaw12.StripeRows", spec := "stripeRows", apart := false }
def StripeRowsSaid : Prop := stripeRowsRow.holds Try.pinned (OpenSpec.ofChange stripeRowsSpec)

/-- ITS FALSE NEIGHBOUR: 'it returns false'. Refute it at one input. -/
def stripeRowsWrong : ChangeSpec := { name := "stripeRows", fn := fun _ => fun
  | [d1, d2, d3] => { results := [.lit (.bool false)], args := [d1, d2, d3] }
  | _ => none }
def StripeRowsWrongFalsely : Prop := stripeRowsRow.holds Try.pinned (OpenSpec.ofChange stripeRowsWrong)

/-- 'syncopelaw17.WordsAsks': WHATEVER THE INPUT: true; the input reads as it did. -/
def wordsAsksSpec : ChangeSpec := { name := "wordsAsks", fn := fun _ => fun
  | [d1, d2, d3, d4, d5, d6, d7] => { results := [.lit (.bool true)], args := [d1, d2, d3, d4, d5, d6, d7] }
  | _ => none }
def wordsAsksRow : OpenClaim := { program := "ytiomicjfbbkbaaa", sum := "3d461734c8e896ecdac5df070657e80d8ec1a62e406636f3007b7f4b9a93d6cd", func := "syncope/syncopelaw17.WordsAsks", spec := "wordsAsks", apart := false }
def WordsAsksSaid : Prop := wordsAsksRow.holds Try.pinned (OpenSpec.ofChange wordsAsksSpec)

/-- ITS FALSE NEIGHBOUR: 'it returns false'. Refute it at one input. -/
def wordsAsksWrong : ChangeSpec := { name := "wordsAsks", fn := fun _ => fun
  | [d1, d2, d3, d4, d5, d6, d7] => { results := [.lit (.bool false)], args := [d1, d2, d3, d4, d5, d6, d7] }
  | _ => none }
def WordsAsksWrongFalsely : Prop := wordsAsksRow.holds Try.pinned (OpenSpec.ofChange wordsAsksWrong)

/-- 'syncopelaw17.WordsMarks': WHATEVER THE INPUT: true; the input reads as it did. -/
def wordsMarksSpec : ChangeSpec := { name := "wordsMarks", fn := fun _ => fun
  | [d] => { results := [.lit (.bool true)], args := [d] }
  | _ => none }
def wordsMarksRow : OpenClaim := { program := "ytiomicjfbbkbaaa", sum := "3d461734c8e896ecdac5df070657e80d8ec1a62e406636f3007b7f4b9a93d6cd", func := "syncope/syncopelaw17.WordsMarks", spec := "wordsMarks", apart := false }
def WordsMarksSaid : Prop := wordsMarksRow.holds Try.pinned (OpenSpec.ofChange wordsMarksSpec)

/-- ITS FALSE NEIGHBOUR: 'it returns false'. Refute it at one input. -/
def wordsMarksWrong : ChangeSpec := { name := "wordsMarks", fn := fun _ => fun
  | [d] => { results := [.lit (.bool false)], args := [d] }
  | _ => none }
def WordsMarksWrongFalsely : Prop := wordsMarksRow.holds Try.pinned (OpenSpec.ofChange wordsMarksWrong)

/-- 'syncopelaw17.WordsWatch': WHATEVER THE INPUT: true; the input reads as it did. -/
def wordsWatchSpec : ChangeSpec := { name := "wordsWatch", fn := fun _ => fun
  | [d1, d2] => { results := [.lit (.bool true)], args := [d1, d2] }
  | _ => none }
def wordsWatchRow : OpenClaim := { program := "ytiomicjfbbkbaaa", sum := "3d461734c8e896ecdac5df070657e80d8ec1a62e406636f3007b7f4b9a93d6cd", func := "syncope/syncopelaw17.WordsWatch", spec := "wordsWatch", apart := false }
def WordsWatchSaid : Prop := wordsWatchRow.holds Try.pinned (OpenSpec.ofChange wordsWatchSpec)

/-- ITS FALSE NEIGHBOUR: 'it returns false'. Refute it at one input. -/
def wordsWatchWrong : ChangeSpec := { name := "wordsWatch", fn := fun _ => fun
  | [d1, d2] => { results := [.lit (.bool false)], args := [d1, d2] }
  | _ => none }
def WordsWatchWrongFalsely : Prop := wordsWatchRow.holds Try.pinned (OpenSpec.ofChange wordsWatchWrong)

/- THE SECOND FORM. 'bulk': how many values and letters a reading holds, each counted each time it is reached (what is shared counts as often as it is met; a slice's spare places count too). A statement '..UptoSaid' is the law's where the arguments, and the package variables that the reading takes, are together of bulk at most 1048576: NARROWER than '..Said'. Prove '..Said' where nothing that the law and all that it calls make is longer than what came in: it says more and counts as full. Else prove '..UptoSaid'. A law counts once. -/
mutual
def uptoBulk {H : Type} : DataW H → Nat
  | .lit (.string bytes) => bytes.length + 1
  | .lit _ => 1
  | .nil => 1
  | .ptr d => uptoBulk d + 1
  | .slice elems spare => uptoBulkAll elems + uptoBulkAll spare + 1
  | .agg parts => uptoBulkAll parts + 1
  | .iface _ d => uptoBulk d + 1
  | .map entries => uptoBulkEntries entries + 1
  | .held _ => 1
def uptoBulkAll {H : Type} : List (DataW H) → Nat
  | [] => 0
  | d :: r => uptoBulk d + uptoBulkAll r
def uptoBulkEntries {H : Type} : List (Lit × DataW H) → Nat
  | [] => 0
  | x :: r => uptoBulkEntry x + uptoBulkEntries r
def uptoBulkEntry {H : Type} : Lit × DataW H → Nat
  | (.string bytes, d) => bytes.length + uptoBulk d + 1
  | (_, d) => uptoBulk d + 1
 end
def uptoSmall : (H : Type) → List (DataW H) → Bool := fun _ ds => decide (uptoBulkAll ds ≤ 1048576)
def OpenSpec.upto (s : _root_.Go.ChangeSpec) : _root_.Go.OpenSpec := { _root_.Go.OpenSpec.ofChange s with cond := some uptoSmall }

/-- 'syncopelaw12.StripeRows', WHERE WHAT IT READS IS OF BULK AT MOST 1048576: true; the input reads as it did. -/
def stripeRowsUptoRow : OpenClaim := { program := "ytiomicjfbbkbaaa", sum := "3d461734c8e896ecdac5df070657e80d8ec1a62e406636f3007b7f4b9a93d6cd", func := "syncope/syncopelaw12.StripeRows", spec := "stripeRows", apart := false, narrowed := true }
def StripeRowsUptoSaid : Prop := stripeRowsUptoRow.holds Try.pinned (OpenSpec.upto stripeRowsSpec)

/-- 'syncopelaw17.WordsAsks', WHERE WHAT IT READS IS OF BULK AT MOST 1048576: true; the input reads as it did. -/
def wordsAsksUptoRow : OpenClaim := { program := "ytiomicjfbbkbaaa", sum := "3d461734c8e896ecdac5df070657e80d8ec1a62e406636f3007b7f4b9a93d6cd", func := "syncope/syncopelaw17.WordsAsks", spec := "wordsAsks", apart := false, narrowed := true }
def WordsAsksUptoSaid : Prop := wordsAsksUptoRow.holds Try.pinned (OpenSpec.upto wordsAsksSpec)

/-- 'syncopelaw17.WordsMarks', WHERE WHAT IT READS IS OF BULK AT MOST 1048576: true; the input reads as it did. -/
def wordsMarksUptoRow : OpenClaim := { program := "ytiomicjfbbkbaaa", sum := "3d461734c8e896ecdac5df070657e80d8ec1a62e406636f3007b7f4b9a93d6cd", func := "syncope/syncopelaw17.WordsMarks", spec := "wordsMarks", apart := false, narrowed := true }
def WordsMarksUptoSaid : Prop := wordsMarksUptoRow.holds Try.pinned (OpenSpec.upto wordsMarksSpec)

/-- 'syncopelaw17.WordsWatch', WHERE WHAT IT READS IS OF BULK AT MOST 1048576: true; the input reads as it did. -/
def wordsWatchUptoRow : OpenClaim := { program := "ytiomicjfbbkbaaa", sum := "3d461734c8e896ecdac5df070657e80d8ec1a62e406636f3007b7f4b9a93d6cd", func := "syncope/syncopelaw17.WordsWatch", spec := "wordsWatch", apart := false, narrowed := true }
def WordsWatchUptoSaid : Prop := wordsWatchUptoRow.holds Try.pinned (OpenSpec.upto wordsWatchSpec)

end Rows
end Go.Proofs.Ytiomicjfbbkbaaa
