/-
  No cell of these rows narrows 'for every input' (looked for: loops, veiled, ifaces, maps, wideKeys, modest, calm, conditions, laid).
  DERIVED. THE GIVEN ROWS OF THIS SEAT. 16 by the template 'for every input the law returns true; each argument reads behind the call as it read before'; 0 by the template 'total and deterministic' (their statements: YtldleacoajlinaaTotals.lean).
  GIVEN WITH THE SEED: the statements are not yours to turn. If you find one false, say at which input.
  Laid BY PROGRAM, IN A SANDBOX (cutbox-rows.mjs): the forced cells as the released guide's own fill.sh prints them over the translation ae672a6b1029c522… (all of the seat's roots in one cut). By AI agents, Wed Nov 11 2026. No macro, syntax, notation, axiom, sorry.
-/
import Derived.Test.YtldleacoajlinaaChecked
import GoSem.Claim
import GoSem.ClaimJoined
import GoSem.ClaimMapViews
import Derived.JoinedTies
import Derived.KernelRfl
namespace Go.Proofs.Ytldleacoajlinaa
/- THE CELL 'sum', in the pinned program and in every row, IS THE sha256 OF THE DUMP (.gsa) THAT YtldleacoajlinaaProg.lean LOADS. Nothing in Lean hashes anything: it is a label: what it is worth is what the hold of that sum in a sandbox is worth. -/
noncomputable def Try.pinned : Pinned := { name := "ytldleacoajlinaa", sum := "ae672a6b1029c522fee238144ebdd3f3509a122a985532ff3fe9402b2fd7836d", checked := Try.checked }
namespace Rows
def none {H : Type} : Left H := { results := [], args := [] }

/-- 'syncopelaw12.StripeParts': WHATEVER THE INPUT: true; the input reads as it did. -/
def stripePartsSpec : ChangeSpec := { name := "stripeParts", fn := fun _ => fun
  | [d1, d2, d3] => { results := [.lit (.bool true)], args := [d1, d2, d3] }
  | _ => none }
def stripePartsRow : OpenClaim := { program := "ytldleacoajlinaa", sum := "ae672a6b1029c522fee238144ebdd3f3509a122a985532ff3fe9402b2fd7836d", func := "syncope/syncopelaw12.StripeParts", spec := "stripeParts", apart := false }
def StripePartsSaid : Prop := stripePartsRow.holds Try.pinned (OpenSpec.ofChange stripePartsSpec)

/-- ITS FALSE NEIGHBOUR: 'it returns false'. Refute it at one input. -/
def stripePartsWrong : ChangeSpec := { name := "stripeParts", fn := fun _ => fun
  | [d1, d2, d3] => { results := [.lit (.bool false)], args := [d1, d2, d3] }
  | _ => none }
def StripePartsWrongFalsely : Prop := stripePartsRow.holds Try.pinned (OpenSpec.ofChange stripePartsWrong)

/-- 'syncopelaw12.StripeAsks': WHATEVER THE INPUT: true; the input reads as it did. -/
def stripeAsksSpec : ChangeSpec := { name := "stripeAsks", fn := fun _ => fun
  | [d1, d2, d3] => { results := [.lit (.bool true)], args := [d1, d2, d3] }
  | _ => none }
def stripeAsksRow : OpenClaim := { program := "ytldleacoajlinaa", sum := "ae672a6b1029c522fee238144ebdd3f3509a122a985532ff3fe9402b2fd7836d", func := "syncope/syncopelaw12.StripeAsks", spec := "stripeAsks", apart := false }
def StripeAsksSaid : Prop := stripeAsksRow.holds Try.pinned (OpenSpec.ofChange stripeAsksSpec)

/-- ITS FALSE NEIGHBOUR: 'it returns false'. Refute it at one input. -/
def stripeAsksWrong : ChangeSpec := { name := "stripeAsks", fn := fun _ => fun
  | [d1, d2, d3] => { results := [.lit (.bool false)], args := [d1, d2, d3] }
  | _ => none }
def StripeAsksWrongFalsely : Prop := stripeAsksRow.holds Try.pinned (OpenSpec.ofChange stripeAsksWrong)

/-- 'syncopelaw12.StripeFresh': WHATEVER THE INPUT: true; the input reads as it did. -/
def stripeFreshSpec : ChangeSpec := { name := "stripeFresh", fn := fun _ => fun
  | [d1, d2, d3, d4] => { results := [.lit (.bool true)], args := [d1, d2, d3, d4] }
  | _ => none }
def stripeFreshRow : OpenClaim := { program := "ytldleacoajlinaa", sum := "ae672a6b1029c522fee238144ebdd3f3509a122a985532ff3fe9402b2fd7836d", func := "syncope/syncopelaw12.StripeFresh", spec := "stripeFresh", apart := false }
def StripeFreshSaid : Prop := stripeFreshRow.holds Try.pinned (OpenSpec.ofChange stripeFreshSpec)

/-- ITS FALSE NEIGHBOUR: 'it returns false'. Refute it at one input. -/
def stripeFreshWrong : ChangeSpec := { name := "stripeFresh", fn := fun _ => fun
  | [d1, d2, d3, d4] => { results := [.lit (.bool false)], args := [d1, d2, d3, d4] }
  | _ => none }
def StripeFreshWrongFalsely : Prop := stripeFreshRow.holds Try.pinned (OpenSpec.ofChange stripeFreshWrong)

/-- 'syncopelaw13.ReadsFirst': WHATEVER THE INPUT: true; the input reads as it did. -/
def readsFirstSpec : ChangeSpec := { name := "readsFirst", fn := fun _ => fun
  | [d1, d2] => { results := [.lit (.bool true)], args := [d1, d2] }
  | _ => none }
def readsFirstRow : OpenClaim := { program := "ytldleacoajlinaa", sum := "ae672a6b1029c522fee238144ebdd3f3509a122a985532ff3fe9402b2fd7836d", func := "syncope/syncopelaw13.ReadsFirst", spec := "readsFirst", apart := false }
def ReadsFirstSaid : Prop := readsFirstRow.holds Try.pinned (OpenSpec.ofChange readsFirstSpec)

/-- ITS FALSE NEIGHBOUR: 'it returns false'. Refute it at one input. -/
def readsFirstWrong : ChangeSpec := { name := "readsFirst", fn := fun _ => fun
  | [d1, d2] => { results := [.lit (.bool false)], args := [d1, d2] }
  | _ => none }
def ReadsFirstWrongFalsely : Prop := readsFirstRow.holds Try.pinned (OpenSpec.ofChange readsFirstWrong)

/-- 'syncopelaw13.ReadsRoom': WHATEVER THE INPUT: true; the input reads as it did. -/
def readsRoomSpec : ChangeSpec := { name := "readsRoom", fn := fun _ => fun
  | [d1, d2] => { results := [.lit (.bool true)], args := [d1, d2] }
  | _ => none }
def readsRoomRow : OpenClaim := { program := "ytldleacoajlinaa", sum := "ae672a6b1029c522fee238144ebdd3f3509a122a985532ff3fe9402b2fd7836d", func := "syncope/syncopelaw13.ReadsRoom", spec := "readsRoom", apart := false }
def ReadsRoomSaid : Prop := readsRoomRow.holds Try.pinned (OpenSpec.ofChange readsRoomSpec)

/-- ITS FALSE NEIGHBOUR: 'it returns false'. Refute it at one input. -/
def readsRoomWrong : ChangeSpec := { name := "readsRoom", fn := fun _ => fun
  | [d1, d2] => { results := [.lit (.bool false)], args := [d1, d2] }
  | _ => none }
def ReadsRoomWrongFalsely : Prop := readsRoomRow.holds Try.pinned (OpenSpec.ofChange readsRoomWrong)

/-- 'syncopelaw2.MemAdds': WHATEVER THE INPUT: true; the input reads as it did. -/
def memAddsSpec : ChangeSpec := { name := "memAdds", fn := fun _ => fun
  | [d1, d2, d3] => { results := [.lit (.bool true)], args := [d1, d2, d3] }
  | _ => none }
def memAddsRow : OpenClaim := { program := "ytldleacoajlinaa", sum := "ae672a6b1029c522fee238144ebdd3f3509a122a985532ff3fe9402b2fd7836d", func := "syncope/syncopelaw2.MemAdds", spec := "memAdds", apart := false }
def MemAddsSaid : Prop := memAddsRow.holds Try.pinned (OpenSpec.ofChange memAddsSpec)

/-- ITS FALSE NEIGHBOUR: 'it returns false'. Refute it at one input. -/
def memAddsWrong : ChangeSpec := { name := "memAdds", fn := fun _ => fun
  | [d1, d2, d3] => { results := [.lit (.bool false)], args := [d1, d2, d3] }
  | _ => none }
def MemAddsWrongFalsely : Prop := memAddsRow.holds Try.pinned (OpenSpec.ofChange memAddsWrong)

/-- 'syncopelaw13.ReadsAsks': WHATEVER THE INPUT: true; the input reads as it did. -/
def readsAsksSpec : ChangeSpec := { name := "readsAsks", fn := fun _ => fun
  | [d1, d2, d3] => { results := [.lit (.bool true)], args := [d1, d2, d3] }
  | _ => none }
def readsAsksRow : OpenClaim := { program := "ytldleacoajlinaa", sum := "ae672a6b1029c522fee238144ebdd3f3509a122a985532ff3fe9402b2fd7836d", func := "syncope/syncopelaw13.ReadsAsks", spec := "readsAsks", apart := false }
def ReadsAsksSaid : Prop := readsAsksRow.holds Try.pinned (OpenSpec.ofChange readsAsksSpec)

/-- ITS FALSE NEIGHBOUR: 'it returns false'. Refute it at one input. -/
def readsAsksWrong : ChangeSpec := { name := "readsAsks", fn := fun _ => fun
  | [d1, d2, d3] => { results := [.lit (.bool false)], args := [d1, d2, d3] }
  | _ => none }
def ReadsAsksWrongFalsely : Prop := readsAsksRow.holds Try.pinned (OpenSpec.ofChange readsAsksWrong)

/-- 'syncopelaw14.WritesLast': WHATEVER THE INPUT: true; the input reads as it did. -/
def writesLastSpec : ChangeSpec := { name := "writesLast", fn := fun _ => fun
  | [d1, d2] => { results := [.lit (.bool true)], args := [d1, d2] }
  | _ => none }
def writesLastRow : OpenClaim := { program := "ytldleacoajlinaa", sum := "ae672a6b1029c522fee238144ebdd3f3509a122a985532ff3fe9402b2fd7836d", func := "syncope/syncopelaw14.WritesLast", spec := "writesLast", apart := false }
def WritesLastSaid : Prop := writesLastRow.holds Try.pinned (OpenSpec.ofChange writesLastSpec)

/-- ITS FALSE NEIGHBOUR: 'it returns false'. Refute it at one input. -/
def writesLastWrong : ChangeSpec := { name := "writesLast", fn := fun _ => fun
  | [d1, d2] => { results := [.lit (.bool false)], args := [d1, d2] }
  | _ => none }
def WritesLastWrongFalsely : Prop := writesLastRow.holds Try.pinned (OpenSpec.ofChange writesLastWrong)

/-- 'syncopelaw14.WritesFilter': WHATEVER THE INPUT: true; the input reads as it did. -/
def writesFilterSpec : ChangeSpec := { name := "writesFilter", fn := fun _ => fun
  | [d1, d2] => { results := [.lit (.bool true)], args := [d1, d2] }
  | _ => none }
def writesFilterRow : OpenClaim := { program := "ytldleacoajlinaa", sum := "ae672a6b1029c522fee238144ebdd3f3509a122a985532ff3fe9402b2fd7836d", func := "syncope/syncopelaw14.WritesFilter", spec := "writesFilter", apart := false }
def WritesFilterSaid : Prop := writesFilterRow.holds Try.pinned (OpenSpec.ofChange writesFilterSpec)

/-- ITS FALSE NEIGHBOUR: 'it returns false'. Refute it at one input. -/
def writesFilterWrong : ChangeSpec := { name := "writesFilter", fn := fun _ => fun
  | [d1, d2] => { results := [.lit (.bool false)], args := [d1, d2] }
  | _ => none }
def WritesFilterWrongFalsely : Prop := writesFilterRow.holds Try.pinned (OpenSpec.ofChange writesFilterWrong)

/-- 'syncopelaw2.MemSwaps': WHATEVER THE INPUT: true; the input reads as it did. -/
def memSwapsSpec : ChangeSpec := { name := "memSwaps", fn := fun _ => fun
  | [d1, d2] => { results := [.lit (.bool true)], args := [d1, d2] }
  | _ => none }
def memSwapsRow : OpenClaim := { program := "ytldleacoajlinaa", sum := "ae672a6b1029c522fee238144ebdd3f3509a122a985532ff3fe9402b2fd7836d", func := "syncope/syncopelaw2.MemSwaps", spec := "memSwaps", apart := false }
def MemSwapsSaid : Prop := memSwapsRow.holds Try.pinned (OpenSpec.ofChange memSwapsSpec)

/-- ITS FALSE NEIGHBOUR: 'it returns false'. Refute it at one input. -/
def memSwapsWrong : ChangeSpec := { name := "memSwaps", fn := fun _ => fun
  | [d1, d2] => { results := [.lit (.bool false)], args := [d1, d2] }
  | _ => none }
def MemSwapsWrongFalsely : Prop := memSwapsRow.holds Try.pinned (OpenSpec.ofChange memSwapsWrong)

/-- 'syncopelaw2.MemOwn': WHATEVER THE INPUT: true; the input reads as it did. -/
def memOwnSpec : ChangeSpec := { name := "memOwn", fn := fun _ => fun
  | [d1, d2, d3] => { results := [.lit (.bool true)], args := [d1, d2, d3] }
  | _ => none }
def memOwnRow : OpenClaim := { program := "ytldleacoajlinaa", sum := "ae672a6b1029c522fee238144ebdd3f3509a122a985532ff3fe9402b2fd7836d", func := "syncope/syncopelaw2.MemOwn", spec := "memOwn", apart := false }
def MemOwnSaid : Prop := memOwnRow.holds Try.pinned (OpenSpec.ofChange memOwnSpec)

/-- ITS FALSE NEIGHBOUR: 'it returns false'. Refute it at one input. -/
def memOwnWrong : ChangeSpec := { name := "memOwn", fn := fun _ => fun
  | [d1, d2, d3] => { results := [.lit (.bool false)], args := [d1, d2, d3] }
  | _ => none }
def MemOwnWrongFalsely : Prop := memOwnRow.holds Try.pinned (OpenSpec.ofChange memOwnWrong)

/-- 'syncopelaw14.WritesRoom': WHATEVER THE INPUT: true; the input reads as it did. -/
def writesRoomSpec : ChangeSpec := { name := "writesRoom", fn := fun _ => fun
  | [d1, d2] => { results := [.lit (.bool true)], args := [d1, d2] }
  | _ => none }
def writesRoomRow : OpenClaim := { program := "ytldleacoajlinaa", sum := "ae672a6b1029c522fee238144ebdd3f3509a122a985532ff3fe9402b2fd7836d", func := "syncope/syncopelaw14.WritesRoom", spec := "writesRoom", apart := false }
def WritesRoomSaid : Prop := writesRoomRow.holds Try.pinned (OpenSpec.ofChange writesRoomSpec)

/-- ITS FALSE NEIGHBOUR: 'it returns false'. Refute it at one input. -/
def writesRoomWrong : ChangeSpec := { name := "writesRoom", fn := fun _ => fun
  | [d1, d2] => { results := [.lit (.bool false)], args := [d1, d2] }
  | _ => none }
def WritesRoomWrongFalsely : Prop := writesRoomRow.holds Try.pinned (OpenSpec.ofChange writesRoomWrong)

/-- 'syncopelaw14.WritesAsks': WHATEVER THE INPUT: true; the input reads as it did. -/
def writesAsksSpec : ChangeSpec := { name := "writesAsks", fn := fun _ => fun
  | [d1, d2] => { results := [.lit (.bool true)], args := [d1, d2] }
  | _ => none }
def writesAsksRow : OpenClaim := { program := "ytldleacoajlinaa", sum := "ae672a6b1029c522fee238144ebdd3f3509a122a985532ff3fe9402b2fd7836d", func := "syncope/syncopelaw14.WritesAsks", spec := "writesAsks", apart := false }
def WritesAsksSaid : Prop := writesAsksRow.holds Try.pinned (OpenSpec.ofChange writesAsksSpec)

/-- ITS FALSE NEIGHBOUR: 'it returns false'. Refute it at one input. -/
def writesAsksWrong : ChangeSpec := { name := "writesAsks", fn := fun _ => fun
  | [d1, d2] => { results := [.lit (.bool false)], args := [d1, d2] }
  | _ => none }
def WritesAsksWrongFalsely : Prop := writesAsksRow.holds Try.pinned (OpenSpec.ofChange writesAsksWrong)

/-- 'syncopelaw2.MemLimit': WHATEVER THE INPUT: true; the input reads as it did. -/
def memLimitSpec : ChangeSpec := { name := "memLimit", fn := fun _ => fun
  | [d] => { results := [.lit (.bool true)], args := [d] }
  | _ => none }
def memLimitRow : OpenClaim := { program := "ytldleacoajlinaa", sum := "ae672a6b1029c522fee238144ebdd3f3509a122a985532ff3fe9402b2fd7836d", func := "syncope/syncopelaw2.MemLimit", spec := "memLimit", apart := false }
def MemLimitSaid : Prop := memLimitRow.holds Try.pinned (OpenSpec.ofChange memLimitSpec)

/-- ITS FALSE NEIGHBOUR: 'it returns false'. Refute it at one input. -/
def memLimitWrong : ChangeSpec := { name := "memLimit", fn := fun _ => fun
  | [d] => { results := [.lit (.bool false)], args := [d] }
  | _ => none }
def MemLimitWrongFalsely : Prop := memLimitRow.holds Try.pinned (OpenSpec.ofChange memLimitWrong)

/-- 'syncopelaw2.MemAsks': WHATEVER THE INPUT: true; the input reads as it did. -/
def memAsksSpec : ChangeSpec := { name := "memAsks", fn := fun _ => fun
  | [d1, d2] => { results := [.lit (.bool true)], args := [d1, d2] }
  | _ => none }
def memAsksRow : OpenClaim := { program := "ytldleacoajlinaa", sum := "ae672a6b1029c522fee238144ebdd3f3509a122a985532ff3fe9402b2fd7836d", func := "syncope/syncopelaw2.MemAsks", spec := "memAsks", apart := false }
def MemAsksSaid : Prop := memAsksRow.holds Try.pinned (OpenSpec.ofChange memAsksSpec)

/-- ITS FALSE NEIGHBOUR: 'it returns false'. Refute it at one input. -/
def memAsksWrong : ChangeSpec := { name := "memAsks", fn := fun _ => fun
  | [d1, d2] => { results := [.lit (.bool false)], args := [d1, d2] }
  | _ => none }
def MemAsksWrongFalsely : Prop := memAsksRow.holds Try.pinned (OpenSpec.ofChange memAsksWrong)

/-- 'syncopelaw2.MemRange': WHATEVER THE INPUT: true; the input reads as it did. -/
def memRangeSpec : ChangeSpec := { name := "memRange", fn := fun _ => fun
  | [d1, d2, d3, d4] => { results := [.lit (.bool true)], args := [d1, d2, d3, d4] }
  | _ => none }
def memRangeRow : OpenClaim := { program := "ytldleacoajlinaa", sum := "ae672a6b1029c522fee238144ebdd3f3509a122a985532ff3fe9402b2fd7836d", func := "syncope/syncopelaw2.MemRange", spec := "memRange", apart := false }
def MemRangeSaid : Prop := memRangeRow.holds Try.pinned (OpenSpec.ofChange memRangeSpec)

/-- ITS FALSE NEIGHBOUR: 'it returns false'. Refute it at one input. -/
def memRangeWrong : ChangeSpec := { name := "memRange", fn := fun _ => fun
  | [d1, d2, d3, d4] => { results := [.lit (.bool false)], args := [d1, d2, d3, d4] }
  | _ => none }
def MemRangeWrongFalsely : Prop := memRangeRow.holds Try.pinned (OpenSpec.ofChange memRangeWrong)

/- THE SECOND FORM. 'bulk': how many values and letters a reading holds, each counted each time it is reached (what is shared counts as often as it is met; a slice's spare places count too). A statement '..UptoSaid' is the law's where the arguments, and the package variables that the reading takes, are together of bulk at most 1048576: NARROWER than '..Said'. Prove '..Said' where nothing that the law and all that it calls make is longer than what came in: it says more and counts as full. Else prove '..UptoSaid'. A law counts once. -/
mutual
def uptoBulk {H : Type} : DataW H → Nat
  | .lit (.string bytes) => bytes.length + 1
  | .lit _ => 1
  | .nil => 1
  | .ptr d => uptoBulk d + 1
  | .slice elems spare => uptoBulkAll elems + uptoBulkAll spare + 1
  | .agg parts => uptoBulkAll parts + 1
  | .iface _ d => uptoBulk d + 1
  | .map entries => uptoBulkEntries entries + 1
  | .held _ => 1
def uptoBulkAll {H : Type} : List (DataW H) → Nat
  | [] => 0
  | d :: r => uptoBulk d + uptoBulkAll r
def uptoBulkEntries {H : Type} : List (Lit × DataW H) → Nat
  | [] => 0
  | x :: r => uptoBulkEntry x + uptoBulkEntries r
def uptoBulkEntry {H : Type} : Lit × DataW H → Nat
  | (.string bytes, d) => bytes.length + uptoBulk d + 1
  | (_, d) => uptoBulk d + 1
 end
def uptoSmall : (H : Type) → List (DataW H) → Bool := fun _ ds => decide (uptoBulkAll ds ≤ 1048576)
def OpenSpec.upto (s : _root_.Go.ChangeSpec) : _root_.Go.OpenSpec := { _root_.Go.OpenSpec.ofChange s with cond := some uptoSmall }

/-- 'syncopelaw12.StripeParts', WHERE WHAT IT READS IS OF BULK AT MOST 1048576: true; the input reads as it did. -/
def stripePartsUptoRow : OpenClaim := { program := "ytldleacoajlinaa", sum := "ae672a6b1029c522fee238144ebdd3f3509a122a985532ff3fe9402b2fd7836d", func := "syncope/syncopelaw12.StripeParts", spec := "stripeParts", apart := false, narrowed := true }
def StripePartsUptoSaid : Prop := stripePartsUptoRow.holds Try.pinned (OpenSpec.upto stripePartsSpec)

/-- 'syncopelaw12.StripeAsks', WHERE WHAT IT READS IS OF BULK AT MOST 1048576: true; the input reads as it did. -/
def stripeAsksUptoRow : OpenClaim := { program := "ytldleacoajlinaa", sum := "ae672a6b1029c522fee238144ebdd3f3509a122a985532ff3fe9402b2fd7836d", func := "syncope/syncopelaw12.StripeAsks", spec := "stripeAsks", apart := false, narrowed := true }
def StripeAsksUptoSaid : Prop := stripeAsksUptoRow.holds Try.pinned (OpenSpec.upto stripeAsksSpec)

/-- 'syncopelaw12.StripeFresh', WHERE WHAT IT READS IS OF BULK AT MOST 1048576: true; the input reads as it did. -/
def stripeFreshUptoRow : OpenClaim := { program := "ytldleacoajlinaa", sum := "ae672a6b1029c522fee238144ebdd3f3509a122a985532ff3fe9402b2fd7836d", func := "syncope/syncopelaw12.StripeFresh", spec := "stripeFresh", apart := false, narrowed := true }
def StripeFreshUptoSaid : Prop := stripeFreshUptoRow.holds Try.pinned (OpenSpec.upto stripeFreshSpec)

/-- 'syncopelaw13.ReadsFirst', WHERE WHAT IT READS IS OF BULK AT MOST 1048576: true; the input reads as it did. -/
def readsFirstUptoRow : OpenClaim := { program := "ytldleacoajlinaa", sum := "ae672a6b1029c522fee238144ebdd3f3509a122a985532ff3fe9402b2fd7836d", func := "syncope/syncopelaw13.ReadsFirst", spec := "readsFirst", apart := false, narrowed := true }
def ReadsFirstUptoSaid : Prop := readsFirstUptoRow.holds Try.pinned (OpenSpec.upto readsFirstSpec)

/-- 'syncopelaw13.ReadsRoom', WHERE WHAT IT READS IS OF BULK AT MOST 1048576: true; the input reads as it did. -/
def readsRoomUptoRow : OpenClaim := { program := "ytldleacoajlinaa", sum := "ae672a6b1029c522fee238144ebdd3f3509a122a985532ff3fe9402b2fd7836d", func := "syncope/syncopelaw13.ReadsRoom", spec := "readsRoom", apart := false, narrowed := true }
def ReadsRoomUptoSaid : Prop := readsRoomUptoRow.holds Try.pinned (OpenSpec.upto readsRoomSpec)

/-- 'syncopelaw2.MemAdds', WHERE WHAT IT READS IS OF BULK AT MOST 1048576: true; the input reads as it did. -/
def memAddsUptoRow : OpenClaim := { program := "ytldleacoajlinaa", sum := "ae672a6b1029c522fee238144ebdd3f3509a122a985532ff3fe9402b2fd7836d", func := "syncope/syncopelaw2.MemAdds", spec := "memAdds", apart := false, narrowed := true }
def MemAddsUptoSaid : Prop := memAddsUptoRow.holds Try.pinned (OpenSpec.upto memAddsSpec)

/-- 'syncopelaw13.ReadsAsks', WHERE WHAT IT READS IS OF BULK AT MOST 1048576: true; the input reads as it did. -/
def readsAsksUptoRow : OpenClaim := { program := "ytldleacoajlinaa", sum := "ae672a6b1029c522fee238144ebdd3f3509a122a985532ff3fe9402b2fd7836d", func := "syncope/syncopelaw13.ReadsAsks", spec := "readsAsks", apart := false, narrowed := true }
def ReadsAsksUptoSaid : Prop := readsAsksUptoRow.holds Try.pinned (OpenSpec.upto readsAsksSpec)

/-- 'syncopelaw14.WritesLast', WHERE WHAT IT READS IS OF BULK AT MOST 1048576: true; the input reads as it did. -/
def writesLastUptoRow : OpenClaim := { program := "ytldleacoajlinaa", sum := "ae672a6b1029c522fee238144ebdd3f3509a122a985532ff3fe9402b2fd7836d", func := "syncope/syncopelaw14.WritesLast", spec := "writesLast", apart := false, narrowed := true }
def WritesLastUptoSaid : Prop := writesLastUptoRow.holds Try.pinned (OpenSpec.upto writesLastSpec)

/-- 'syncopelaw14.WritesFilter', WHERE WHAT IT READS IS OF BULK AT MOST 1048576: true; the input reads as it did. -/
def writesFilterUptoRow : OpenClaim := { program := "ytldleacoajlinaa", sum := "ae672a6b1029c522fee238144ebdd3f3509a122a985532ff3fe9402b2fd7836d", func := "syncope/syncopelaw14.WritesFilter", spec := "writesFilter", apart := false, narrowed := true }
def WritesFilterUptoSaid : Prop := writesFilterUptoRow.holds Try.pinned (OpenSpec.upto writesFilterSpec)

/-- 'syncopelaw2.MemSwaps', WHERE WHAT IT READS IS OF BULK AT MOST 1048576: true; the input reads as it did. -/
def memSwapsUptoRow : OpenClaim := { program := "ytldleacoajlinaa", sum := "ae672a6b1029c522fee238144ebdd3f3509a122a985532ff3fe9402b2fd7836d", func := "syncope/syncopelaw2.MemSwaps", spec := "memSwaps", apart := false, narrowed := true }
def MemSwapsUptoSaid : Prop := memSwapsUptoRow.holds Try.pinned (OpenSpec.upto memSwapsSpec)

/-- 'syncopelaw2.MemOwn', WHERE WHAT IT READS IS OF BULK AT MOST 1048576: true; the input reads as it did. -/
def memOwnUptoRow : OpenClaim := { program := "ytldleacoajlinaa", sum := "ae672a6b1029c522fee238144ebdd3f3509a122a985532ff3fe9402b2fd7836d", func := "syncope/syncopelaw2.MemOwn", spec := "memOwn", apart := false, narrowed := true }
def MemOwnUptoSaid : Prop := memOwnUptoRow.holds Try.pinned (OpenSpec.upto memOwnSpec)

/-- 'syncopelaw14.WritesRoom', WHERE WHAT IT READS IS OF BULK AT MOST 1048576: true; the input reads as it did. -/
def writesRoomUptoRow : OpenClaim := { program := "ytldleacoajlinaa", sum := "ae672a6b1029c522fee238144ebdd3f3509a122a985532ff3fe9402b2fd7836d", func := "syncope/syncopelaw14.WritesRoom", spec := "writesRoom", apart := false, narrowed := true }
def WritesRoomUptoSaid : Prop := writesRoomUptoRow.holds Try.pinned (OpenSpec.upto writesRoomSpec)

/-- 'syncopelaw14.WritesAsks', WHERE WHAT IT READS IS OF BULK AT MOST 1048576: true; the input reads as it did. -/
def writesAsksUptoRow : OpenClaim := { program := "ytldleacoajlinaa", sum := "ae672a6b1029c522fee238144ebdd3f3509a122a985532ff3fe9402b2fd7836d", func := "syncope/syncopelaw14.WritesAsks", spec := "writesAsks", apart := false, narrowed := true }
def WritesAsksUptoSaid : Prop := writesAsksUptoRow.holds Try.pinned (OpenSpec.upto writesAsksSpec)

/-- 'syncopelaw2.MemLimit', WHERE WHAT IT READS IS OF BULK AT MOST 1048576: true; the input reads as it did. -/
def memLimitUptoRow : OpenClaim := { program := "ytldleacoajlinaa", sum := "ae672a6b1029c522fee238144ebdd3f3509a122a985532ff3fe9402b2fd7836d", func := "syncope/syncopelaw2.MemLimit", spec := "memLimit", apart := false, narrowed := true }
def MemLimitUptoSaid : Prop := memLimitUptoRow.holds Try.pinned (OpenSpec.upto memLimitSpec)

/-- 'syncopelaw2.MemAsks', WHERE WHAT IT READS IS OF BULK AT MOST 1048576: true; the input reads as it did. -/
def memAsksUptoRow : OpenClaim := { program := "ytldleacoajlinaa", sum := "ae672a6b1029c522fee238144ebdd3f3509a122a985532ff3fe9402b2fd7836d", func := "syncope/syncopelaw2.MemAsks", spec := "memAsks", apart := false, narrowed := true }
def MemAsksUptoSaid : Prop := memAsksUptoRow.holds Try.pinned (OpenSpec.upto memAsksSpec)

/-- 'syncopelaw2.MemRange', WHERE WHAT IT READS IS OF BULK AT MOST 1048576: true; the input reads as it did. -/
def memRangeUptoRow : OpenClaim := { program := "ytldleacoajlinaa", sum := "ae672a6b1029c522fee238144ebdd3f3509a122a985532ff3fe9402b2fd7836d", func := "syncope/syncopelaw2.MemRange", spec := "memRange", apart := false, narrowed := true }
def MemRangeUptoSaid : Prop := memRangeUptoRow.holds Try.pinned (OpenSpec.upto memRangeSpec)

end Rows
end Go.Proofs.Ytldleacoajlinaa
