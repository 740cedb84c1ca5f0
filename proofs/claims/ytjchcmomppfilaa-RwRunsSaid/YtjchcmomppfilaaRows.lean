/-
  No cell of these rows narrows 'for every input' (looked for: loops, veiled, ifaces, maps, wideKeys, modest, calm, conditions, laid).
  DERIVED. THE GIVEN ROWS OF THIS SEAT. 10 by the template 'for every input the law returns true; each argument reads behind the call as it read before'; 0 by the template 'total and deterministic' (their statements: YtjchcmomppfilaaTotals.lean).
  GIVEN WITH THE SEED: the statements are not yours to turn. If you find one false, say at which input.
  Laid BY PROGRAM, IN A SANDBOX (cutbox-rows.mjs): the forced cells as the released guide's own fill.sh prints them over the translation 23fbe0591cd45f6e… (all of the seat's roots in one cut). By AI agents, Wed Nov 11 2026. No macro, syntax, notation, axiom, sorry.
-/
import Derived.Test.YtjchcmomppfilaaChecked
import GoSem.Claim
import GoSem.ClaimJoined
import GoSem.ClaimMapViews
import Derived.JoinedTies
import Derived.KernelRfl
namespace Go.Proofs.Ytjchcmomppfilaa
/- THE CELL 'sum', in the pinned program and in every row, IS THE sha256 OF THE DUMP (.gsa) THAT YtjchcmomppfilaaProg.lean LOADS. Nothing in Lean hashes anything: it is a label: what it is worth is what the hold of that sum in a sandbox is worth. -/
noncomputable def Try.pinned : Pinned := { name := "ytjchcmomppfilaa", sum := "23fbe0591cd45f6e24363b0c5e8fd09a79f86c781a8e90a371d29ad3b8189792", checked := Try.checked }
namespace Rows
def none {H : Type} : Left H := { results := [], args := [] }

/-- 'syncopelaw9.McsNodes': WHATEVER THE INPUT: true; the input reads as it did. -/
def mcsNodesSpec : ChangeSpec := { name := "mcsNodes", fn := fun _ => fun
  | [d] => { results := [.lit (.bool true)], args := [d] }
  | _ => none }
def mcsNodesRow : OpenClaim := { program := "ytjchcmomppfilaa", sum := "23fbe0591cd45f6e24363b0c5e8fd09a79f86c781a8e90a371d29ad3b8189792", func := "syncope/syncopelaw9.McsNodes", spec := "mcsNodes", apart := false }
def McsNodesSaid : Prop := mcsNodesRow.holds Try.pinned (OpenSpec.ofChange mcsNodesSpec)

/-- ITS FALSE NEIGHBOUR: 'it returns false'. Refute it at one input. -/
def mcsNodesWrong : ChangeSpec := { name := "mcsNodes", fn := fun _ => fun
  | [d] => { results := [.lit (.bool false)], args := [d] }
  | _ => none }
def McsNodesWrongFalsely : Prop := mcsNodesRow.holds Try.pinned (OpenSpec.ofChange mcsNodesWrong)

/-- 'syncopelaw9.McsOwn': WHATEVER THE INPUT: true; the input reads as it did. -/
def mcsOwnSpec : ChangeSpec := { name := "mcsOwn", fn := fun _ => fun
  | [d] => { results := [.lit (.bool true)], args := [d] }
  | _ => none }
def mcsOwnRow : OpenClaim := { program := "ytjchcmomppfilaa", sum := "23fbe0591cd45f6e24363b0c5e8fd09a79f86c781a8e90a371d29ad3b8189792", func := "syncope/syncopelaw9.McsOwn", spec := "mcsOwn", apart := false }
def McsOwnSaid : Prop := mcsOwnRow.holds Try.pinned (OpenSpec.ofChange mcsOwnSpec)

/-- ITS FALSE NEIGHBOUR: 'it returns false'. Refute it at one input. -/
def mcsOwnWrong : ChangeSpec := { name := "mcsOwn", fn := fun _ => fun
  | [d] => { results := [.lit (.bool false)], args := [d] }
  | _ => none }
def McsOwnWrongFalsely : Prop := mcsOwnRow.holds Try.pinned (OpenSpec.ofChange mcsOwnWrong)

/-- 'syncopelaw9.McsOrder': WHATEVER THE INPUT: true; the input reads as it did. -/
def mcsOrderSpec : ChangeSpec := { name := "mcsOrder", fn := fun _ => fun
  | [d1, d2] => { results := [.lit (.bool true)], args := [d1, d2] }
  | _ => none }
def mcsOrderRow : OpenClaim := { program := "ytjchcmomppfilaa", sum := "23fbe0591cd45f6e24363b0c5e8fd09a79f86c781a8e90a371d29ad3b8189792", func := "syncope/syncopelaw9.McsOrder", spec := "mcsOrder", apart := false }
def McsOrderSaid : Prop := mcsOrderRow.holds Try.pinned (OpenSpec.ofChange mcsOrderSpec)

/-- ITS FALSE NEIGHBOUR: 'it returns false'. Refute it at one input. -/
def mcsOrderWrong : ChangeSpec := { name := "mcsOrder", fn := fun _ => fun
  | [d1, d2] => { results := [.lit (.bool false)], args := [d1, d2] }
  | _ => none }
def McsOrderWrongFalsely : Prop := mcsOrderRow.holds Try.pinned (OpenSpec.ofChange mcsOrderWrong)

/-- 'syncopelaw9.McsAsks': WHATEVER THE INPUT: true; the input reads as it did. -/
def mcsAsksSpec : ChangeSpec := { name := "mcsAsks", fn := fun _ => fun
  | [d1, d2, d3, d4] => { results := [.lit (.bool true)], args := [d1, d2, d3, d4] }
  | _ => none }
def mcsAsksRow : OpenClaim := { program := "ytjchcmomppfilaa", sum := "23fbe0591cd45f6e24363b0c5e8fd09a79f86c781a8e90a371d29ad3b8189792", func := "syncope/syncopelaw9.McsAsks", spec := "mcsAsks", apart := false }
def McsAsksSaid : Prop := mcsAsksRow.holds Try.pinned (OpenSpec.ofChange mcsAsksSpec)

/-- ITS FALSE NEIGHBOUR: 'it returns false'. Refute it at one input. -/
def mcsAsksWrong : ChangeSpec := { name := "mcsAsks", fn := fun _ => fun
  | [d1, d2, d3, d4] => { results := [.lit (.bool false)], args := [d1, d2, d3, d4] }
  | _ => none }
def McsAsksWrongFalsely : Prop := mcsAsksRow.holds Try.pinned (OpenSpec.ofChange mcsAsksWrong)

/-- 'syncopelaw9.McsRuns': WHATEVER THE INPUT: true; the input reads as it did. -/
def mcsRunsSpec : ChangeSpec := { name := "mcsRuns", fn := fun _ => fun
  | [d] => { results := [.lit (.bool true)], args := [d] }
  | _ => none }
def mcsRunsRow : OpenClaim := { program := "ytjchcmomppfilaa", sum := "23fbe0591cd45f6e24363b0c5e8fd09a79f86c781a8e90a371d29ad3b8189792", func := "syncope/syncopelaw9.McsRuns", spec := "mcsRuns", apart := false }
def McsRunsSaid : Prop := mcsRunsRow.holds Try.pinned (OpenSpec.ofChange mcsRunsSpec)

/-- ITS FALSE NEIGHBOUR: 'it returns false'. Refute it at one input. -/
def mcsRunsWrong : ChangeSpec := { name := "mcsRuns", fn := fun _ => fun
  | [d] => { results := [.lit (.bool false)], args := [d] }
  | _ => none }
def McsRunsWrongFalsely : Prop := mcsRunsRow.holds Try.pinned (OpenSpec.ofChange mcsRunsWrong)

/-- 'syncopelaw10.RwAlone': WHATEVER THE INPUT: true; the input reads as it did. -/
def rwAloneSpec : ChangeSpec := { name := "rwAlone", fn := fun _ => fun
  | [d] => { results := [.lit (.bool true)], args := [d] }
  | _ => none }
def rwAloneRow : OpenClaim := { program := "ytjchcmomppfilaa", sum := "23fbe0591cd45f6e24363b0c5e8fd09a79f86c781a8e90a371d29ad3b8189792", func := "syncope/syncopelaw10.RwAlone", spec := "rwAlone", apart := false }
def RwAloneSaid : Prop := rwAloneRow.holds Try.pinned (OpenSpec.ofChange rwAloneSpec)

/-- ITS FALSE NEIGHBOUR: 'it returns false'. Refute it at one input. -/
def rwAloneWrong : ChangeSpec := { name := "rwAlone", fn := fun _ => fun
  | [d] => { results := [.lit (.bool false)], args := [d] }
  | _ => none }
def RwAloneWrongFalsely : Prop := rwAloneRow.holds Try.pinned (OpenSpec.ofChange rwAloneWrong)

/-- 'syncopelaw10.RwTogether': WHATEVER THE INPUT: true; the input reads as it did. -/
def rwTogetherSpec : ChangeSpec := { name := "rwTogether", fn := fun _ => fun
  | [d1, d2] => { results := [.lit (.bool true)], args := [d1, d2] }
  | _ => none }
def rwTogetherRow : OpenClaim := { program := "ytjchcmomppfilaa", sum := "23fbe0591cd45f6e24363b0c5e8fd09a79f86c781a8e90a371d29ad3b8189792", func := "syncope/syncopelaw10.RwTogether", spec := "rwTogether", apart := false }
def RwTogetherSaid : Prop := rwTogetherRow.holds Try.pinned (OpenSpec.ofChange rwTogetherSpec)

/-- ITS FALSE NEIGHBOUR: 'it returns false'. Refute it at one input. -/
def rwTogetherWrong : ChangeSpec := { name := "rwTogether", fn := fun _ => fun
  | [d1, d2] => { results := [.lit (.bool false)], args := [d1, d2] }
  | _ => none }
def RwTogetherWrongFalsely : Prop := rwTogetherRow.holds Try.pinned (OpenSpec.ofChange rwTogetherWrong)

/-- 'syncopelaw10.RwEnds': WHATEVER THE INPUT: true; the input reads as it did. -/
def rwEndsSpec : ChangeSpec := { name := "rwEnds", fn := fun _ => fun
  | [d1, d2] => { results := [.lit (.bool true)], args := [d1, d2] }
  | _ => none }
def rwEndsRow : OpenClaim := { program := "ytjchcmomppfilaa", sum := "23fbe0591cd45f6e24363b0c5e8fd09a79f86c781a8e90a371d29ad3b8189792", func := "syncope/syncopelaw10.RwEnds", spec := "rwEnds", apart := false }
def RwEndsSaid : Prop := rwEndsRow.holds Try.pinned (OpenSpec.ofChange rwEndsSpec)

/-- ITS FALSE NEIGHBOUR: 'it returns false'. Refute it at one input. -/
def rwEndsWrong : ChangeSpec := { name := "rwEnds", fn := fun _ => fun
  | [d1, d2] => { results := [.lit (.bool false)], args := [d1, d2] }
  | _ => none }
def RwEndsWrongFalsely : Prop := rwEndsRow.holds Try.pinned (OpenSpec.ofChange rwEndsWrong)

/-- 'syncopelaw10.RwAsks': WHATEVER THE INPUT: true; the input reads as it did. -/
def rwAsksSpec : ChangeSpec := { name := "rwAsks", fn := fun _ => fun
  | [d1, d2, d3, d4] => { results := [.lit (.bool true)], args := [d1, d2, d3, d4] }
  | _ => none }
def rwAsksRow : OpenClaim := { program := "ytjchcmomppfilaa", sum := "23fbe0591cd45f6e24363b0c5e8fd09a79f86c781a8e90a371d29ad3b8189792", func := "syncope/syncopelaw10.RwAsks", spec := "rwAsks", apart := false }
def RwAsksSaid : Prop := rwAsksRow.holds Try.pinned (OpenSpec.ofChange rwAsksSpec)

/-- ITS FALSE NEIGHBOUR: 'it returns false'. Refute it at one input. -/
def rwAsksWrong : ChangeSpec := { name := "rwAsks", fn := fun _ => fun
  | [d1, d2, d3, d4] => { results := [.lit (.bool false)], args := [d1, d2, d3, d4] }
  | _ => none }
def RwAsksWrongFalsely : Prop := rwAsksRow.holds Try.pinned (OpenSpec.ofChange rwAsksWrong)

/-- 'syncopelaw10.RwRuns': WHATEVER THE INPUT: true; the input reads as it did. -/
def rwRunsSpec : ChangeSpec := { name := "rwRuns", fn := fun _ => fun
  | [d] => { results := [.lit (.bool true)], args := [d] }
  | _ => none }
def rwRunsRow : OpenClaim := { program := "ytjchcmomppfilaa", sum := "23fbe0591cd45f6e24363b0c5e8fd09a79f86c781a8e90a371d29ad3b8189792", func := "syncope/syncopelaw10.RwRuns", spec := "rwRuns", apart := false }
def RwRunsSaid : Prop := rwRunsRow.holds Try.pinned (OpenSpec.ofChange rwRunsSpec)

/-- ITS FALSE NEIGHBOUR: 'it returns false'. Refute it at one input. -/
def rwRunsWrong : ChangeSpec := { name := "rwRuns", fn := fun _ => fun
  | [d] => { results := [.lit (.bool false)], args := [d] }
  | _ => none }
def RwRunsWrongFalsely : Prop := rwRunsRow.holds Try.pinned (OpenSpec.ofChange rwRunsWrong)

/- THE SECOND FORM. 'bulk': how many values and letters a reading holds, each counted each time it is reached (what is shared counts as often as it is met; a slice's spare places count too). A statement '..UptoSaid' is the law's where the arguments, and the package variables that the reading takes, are together of bulk at most 1048576: NARROWER than '..Said'. Prove '..Said' where nothing that the law and all that it calls make is longer than what came in: it says more and counts as full. Else prove '..UptoSaid'. A law counts once. -/
mutual
def uptoBulk {H : Type} : DataW H → Nat
  | .lit (.string bytes) => bytes.length + 1
  | .lit _ => 1
  | .nil => 1
  | .ptr d => uptoBulk d + 1
  | .slice elems spare => uptoBulkAll elems + uptoBulkAll spare + 1
  | .agg parts => uptoBulkAll parts + 1
  | .iface _ d => uptoBulk d + 1
  | .map entries => uptoBulkEntries entries + 1
  | .held _ => 1
def uptoBulkAll {H : Type} : List (DataW H) → Nat
  | [] => 0
  | d :: r => uptoBulk d + uptoBulkAll r
def uptoBulkEntries {H : Type} : List (Lit × DataW H) → Nat
  | [] => 0
  | x :: r => uptoBulkEntry x + uptoBulkEntries r
def uptoBulkEntry {H : Type} : Lit × DataW H → Nat
  | (.string bytes, d) => bytes.length + uptoBulk d + 1
  | (_, d) => uptoBulk d + 1
 end
def uptoSmall : (H : Type) → List (DataW H) → Bool := fun _ ds => decide (uptoBulkAll ds ≤ 1048576)
def OpenSpec.upto (s : _root_.Go.ChangeSpec) : _root_.Go.OpenSpec := { _root_.Go.OpenSpec.ofChange s with cond := some uptoSmall }

/-- 'syncopelaw9.McsNodes', WHERE WHAT IT READS IS OF BULK AT MOST 1048576: true; the input reads as it did. -/
def mcsNodesUptoRow : OpenClaim := { program := "ytjchcmomppfilaa", sum := "23fbe0591cd45f6e24363b0c5e8fd09a79f86c781a8e90a371d29ad3b8189792", func := "syncope/syncopelaw9.McsNodes", spec := "mcsNodes", apart := false, narrowed := true }
def McsNodesUptoSaid : Prop := mcsNodesUptoRow.holds Try.pinned (OpenSpec.upto mcsNodesSpec)

/-- 'syncopelaw9.McsOwn', WHERE WHAT IT READS IS OF BULK AT MOST 1048576: true; the input reads as it did. -/
def mcsOwnUptoRow : OpenClaim := { program := "ytjchcmomppfilaa", sum := "23fbe0591cd45f6e24363b0c5e8fd09a79f86c781a8e90a371d29ad3b8189792", func := "syncope/syncopelaw9.McsOwn", spec := "mcsOwn", apart := false, narrowed := true }
def McsOwnUptoSaid : Prop := mcsOwnUptoRow.holds Try.pinned (OpenSpec.upto mcsOwnSpec)

/-- 'syncopelaw9.McsOrder', WHERE WHAT IT READS IS OF BULK AT MOST 1048576: true; the input reads as it did. -/
def mcsOrderUptoRow : OpenClaim := { program := "ytjchcmomppfilaa", sum := "23fbe0591cd45f6e24363b0c5e8fd09a79f86c781a8e90a371d29ad3b8189792", func := "syncope/syncopelaw9.McsOrder", spec := "mcsOrder", apart := false, narrowed := true }
def McsOrderUptoSaid : Prop := mcsOrderUptoRow.holds Try.pinned (OpenSpec.upto mcsOrderSpec)

/-- 'syncopelaw9.McsAsks', WHERE WHAT IT READS IS OF BULK AT MOST 1048576: true; the input reads as it did. -/
def mcsAsksUptoRow : OpenClaim := { program := "ytjchcmomppfilaa", sum := "23fbe0591cd45f6e24363b0c5e8fd09a79f86c781a8e90a371d29ad3b8189792", func := "syncope/syncopelaw9.McsAsks", spec := "mcsAsks", apart := false, narrowed := true }
def McsAsksUptoSaid : Prop := mcsAsksUptoRow.holds Try.pinned (OpenSpec.upto mcsAsksSpec)

/-- 'syncopelaw9.McsRuns', WHERE WHAT IT READS IS OF BULK AT MOST 1048576: true; the input reads as it did. -/
def mcsRunsUptoRow : OpenClaim := { program := "ytjchcmomppfilaa", sum := "23fbe0591cd45f6e24363b0c5e8fd09a79f86c781a8e90a371d29ad3b8189792", func := "syncope/syncopelaw9.McsRuns", spec := "mcsRuns", apart := false, narrowed := true }
def McsRunsUptoSaid : Prop := mcsRunsUptoRow.holds Try.pinned (OpenSpec.upto mcsRunsSpec)

/-- 'syncopelaw10.RwAlone', WHERE WHAT IT READS IS OF BULK AT MOST 1048576: true; the input reads as it did. -/
def rwAloneUptoRow : OpenClaim := { program := "ytjchcmomppfilaa", sum := "23fbe0591cd45f6e24363b0c5e8fd09a79f86c781a8e90a371d29ad3b8189792", func := "syncope/syncopelaw10.RwAlone", spec := "rwAlone", apart := false, narrowed := true }
def RwAloneUptoSaid : Prop := rwAloneUptoRow.holds Try.pinned (OpenSpec.upto rwAloneSpec)

/-- 'syncopelaw10.RwTogether', WHERE WHAT IT READS IS OF BULK AT MOST 1048576: true; the input reads as it did. -/
def rwTogetherUptoRow : OpenClaim := { program := "ytjchcmomppfilaa", sum := "23fbe0591cd45f6e24363b0c5e8fd09a79f86c781a8e90a371d29ad3b8189792", func := "syncope/syncopelaw10.RwTogether", spec := "rwTogether", apart := false, narrowed := true }
def RwTogetherUptoSaid : Prop := rwTogetherUptoRow.holds Try.pinned (OpenSpec.upto rwTogetherSpec)

/-- 'syncopelaw10.RwEnds', WHERE WHAT IT READS IS OF BULK AT MOST 1048576: true; the input reads as it did. -/
def rwEndsUptoRow : OpenClaim := { program := "ytjchcmomppfilaa", sum := "23fbe0591cd45f6e24363b0c5e8fd09a79f86c781a8e90a371d29ad3b8189792", func := "syncope/syncopelaw10.RwEnds", spec := "rwEnds", apart := false, narrowed := true }
def RwEndsUptoSaid : Prop := rwEndsUptoRow.holds Try.pinned (OpenSpec.upto rwEndsSpec)

/-- 'syncopelaw10.RwAsks', WHERE WHAT IT READS IS OF BULK AT MOST 1048576: true; the input reads as it did. -/
def rwAsksUptoRow : OpenClaim := { program := "ytjchcmomppfilaa", sum := "23fbe0591cd45f6e24363b0c5e8fd09a79f86c781a8e90a371d29ad3b8189792", func := "syncope/syncopelaw10.RwAsks", spec := "rwAsks", apart := false, narrowed := true }
def RwAsksUptoSaid : Prop := rwAsksUptoRow.holds Try.pinned (OpenSpec.upto rwAsksSpec)

/-- 'syncopelaw10.RwRuns', WHERE WHAT IT READS IS OF BULK AT MOST 1048576: true; the input reads as it did. -/
def rwRunsUptoRow : OpenClaim := { program := "ytjchcmomppfilaa", sum := "23fbe0591cd45f6e24363b0c5e8fd09a79f86c781a8e90a371d29ad3b8189792", func := "syncope/syncopelaw10.RwRuns", spec := "rwRuns", apart := false, narrowed := true }
def RwRunsUptoSaid : Prop := rwRunsUptoRow.holds Try.pinned (OpenSpec.upto rwRunsSpec)

end Rows
end Go.Proofs.Ytjchcmomppfilaa
