/-
  No cell of these rows narrows 'for every input' (looked for: loops, veiled, ifaces, maps, wideKeys, modest, calm, conditions, laid).
  DERIVED. THE GIVEN ROWS OF THIS SEAT. 11 by the template 'for every input the law returns true; each argument reads behind the call as it read before'; 0 by the template 'total and deterministic' (their statements: YtodaiogefgdcpaaTotals.lean).
  GIVEN WITH THE SEED: the statements are not yours to turn. If you find one false, say at which input.
  Laid BY PROGRAM, IN A SANDBOX (cutbox-rows.mjs): the forced cells as the released guide's own fill.sh prints them over the translation 5a753fdf42f05ac3… (all of the seat's roots in one cut). By AI agents, Wed Nov 11 2026. No macro, syntax, notation, axiom, sorry.
-/
import Derived.Test.YtodaiogefgdcpaaChecked
import GoSem.Claim
import GoSem.ClaimJoined
import GoSem.ClaimMapViews
import Derived.JoinedTies
import Derived.KernelRfl
namespace Go.Proofs.Ytodaiogefgdcpaa
/- THE CELL 'sum', in the pinned program and in every row, IS THE sha256 OF THE DUMP (.gsa) THAT YtodaiogefgdcpaaProg.lean LOADS. Nothing in Lean hashes anything: it is a label: what it is worth is what the hold of that sum in a sandbox is worth. -/
noncomputable def Try.pinned : Pinned := { name := "ytodaiogefgdcpaa", sum := "5a753fdf42f05ac33cc4c066ba1891acabadcc65dc1ec444dfa7dc5afcb3c842", checked := Try.checked }
namespace Rows
def none {H : Type} : Left H := { results := [], args := [] }

/-- 'syncopelaw8.TicketApart': WHATEVER THE INPUT: true; the input reads as it did. -/
def ticketApartSpec : ChangeSpec := { name := "ticketApart", fn := fun _ => fun
  | [d] => { results := [.lit (.bool true)], args := [d] }
  | _ => none }
def ticketApartRow : OpenClaim := { program := "ytodaiogefgdcpaa", sum := "5a753fdf42f05ac33cc4c066ba1891acabadcc65dc1ec444dfa7dc5afcb3c842", func := "syncope/syncopelaw8.TicketApart", spec := "ticketApart", apart := false }
def TicketApartSaid : Prop := ticketApartRow.holds Try.pinned (OpenSpec.ofChange ticketApartSpec)

/-- ITS FALSE NEIGHBOUR: 'it returns false'. Refute it at one input. -/
def ticketApartWrong : ChangeSpec := { name := "ticketApart", fn := fun _ => fun
  | [d] => { results := [.lit (.bool false)], args := [d] }
  | _ => none }
def TicketApartWrongFalsely : Prop := ticketApartRow.holds Try.pinned (OpenSpec.ofChange ticketApartWrong)

/-- 'syncopelaw8.TicketOrder': WHATEVER THE INPUT: true; the input reads as it did. -/
def ticketOrderSpec : ChangeSpec := { name := "ticketOrder", fn := fun _ => fun
  | [d1, d2] => { results := [.lit (.bool true)], args := [d1, d2] }
  | _ => none }
def ticketOrderRow : OpenClaim := { program := "ytodaiogefgdcpaa", sum := "5a753fdf42f05ac33cc4c066ba1891acabadcc65dc1ec444dfa7dc5afcb3c842", func := "syncope/syncopelaw8.TicketOrder", spec := "ticketOrder", apart := false }
def TicketOrderSaid : Prop := ticketOrderRow.holds Try.pinned (OpenSpec.ofChange ticketOrderSpec)

/-- ITS FALSE NEIGHBOUR: 'it returns false'. Refute it at one input. -/
def ticketOrderWrong : ChangeSpec := { name := "ticketOrder", fn := fun _ => fun
  | [d1, d2] => { results := [.lit (.bool false)], args := [d1, d2] }
  | _ => none }
def TicketOrderWrongFalsely : Prop := ticketOrderRow.holds Try.pinned (OpenSpec.ofChange ticketOrderWrong)

/-- 'syncopelaw8.TicketAsks': WHATEVER THE INPUT: true; the input reads as it did. -/
def ticketAsksSpec : ChangeSpec := { name := "ticketAsks", fn := fun _ => fun
  | [d1, d2, d3, d4] => { results := [.lit (.bool true)], args := [d1, d2, d3, d4] }
  | _ => none }
def ticketAsksRow : OpenClaim := { program := "ytodaiogefgdcpaa", sum := "5a753fdf42f05ac33cc4c066ba1891acabadcc65dc1ec444dfa7dc5afcb3c842", func := "syncope/syncopelaw8.TicketAsks", spec := "ticketAsks", apart := false }
def TicketAsksSaid : Prop := ticketAsksRow.holds Try.pinned (OpenSpec.ofChange ticketAsksSpec)

/-- ITS FALSE NEIGHBOUR: 'it returns false'. Refute it at one input. -/
def ticketAsksWrong : ChangeSpec := { name := "ticketAsks", fn := fun _ => fun
  | [d1, d2, d3, d4] => { results := [.lit (.bool false)], args := [d1, d2, d3, d4] }
  | _ => none }
def TicketAsksWrongFalsely : Prop := ticketAsksRow.holds Try.pinned (OpenSpec.ofChange ticketAsksWrong)

/-- 'syncopelaw11.ClockOwn': WHATEVER THE INPUT: true; the input reads as it did. -/
def clockOwnSpec : ChangeSpec := { name := "clockOwn", fn := fun _ => fun
  | [d1, d2] => { results := [.lit (.bool true)], args := [d1, d2] }
  | _ => none }
def clockOwnRow : OpenClaim := { program := "ytodaiogefgdcpaa", sum := "5a753fdf42f05ac33cc4c066ba1891acabadcc65dc1ec444dfa7dc5afcb3c842", func := "syncope/syncopelaw11.ClockOwn", spec := "clockOwn", apart := false }
def ClockOwnSaid : Prop := clockOwnRow.holds Try.pinned (OpenSpec.ofChange clockOwnSpec)

/-- ITS FALSE NEIGHBOUR: 'it returns false'. Refute it at one input. -/
def clockOwnWrong : ChangeSpec := { name := "clockOwn", fn := fun _ => fun
  | [d1, d2] => { results := [.lit (.bool false)], args := [d1, d2] }
  | _ => none }
def ClockOwnWrongFalsely : Prop := clockOwnRow.holds Try.pinned (OpenSpec.ofChange clockOwnWrong)

/-- 'syncopelaw11.ClockJoin': WHATEVER THE INPUT: true; the input reads as it did. -/
def clockJoinSpec : ChangeSpec := { name := "clockJoin", fn := fun _ => fun
  | [d] => { results := [.lit (.bool true)], args := [d] }
  | _ => none }
def clockJoinRow : OpenClaim := { program := "ytodaiogefgdcpaa", sum := "5a753fdf42f05ac33cc4c066ba1891acabadcc65dc1ec444dfa7dc5afcb3c842", func := "syncope/syncopelaw11.ClockJoin", spec := "clockJoin", apart := false }
def ClockJoinSaid : Prop := clockJoinRow.holds Try.pinned (OpenSpec.ofChange clockJoinSpec)

/-- ITS FALSE NEIGHBOUR: 'it returns false'. Refute it at one input. -/
def clockJoinWrong : ChangeSpec := { name := "clockJoin", fn := fun _ => fun
  | [d] => { results := [.lit (.bool false)], args := [d] }
  | _ => none }
def ClockJoinWrongFalsely : Prop := clockJoinRow.holds Try.pinned (OpenSpec.ofChange clockJoinWrong)

/-- 'syncopelaw11.ClockWaits': WHATEVER THE INPUT: true; the input reads as it did. -/
def clockWaitsSpec : ChangeSpec := { name := "clockWaits", fn := fun _ => fun
  | [d1, d2] => { results := [.lit (.bool true)], args := [d1, d2] }
  | _ => none }
def clockWaitsRow : OpenClaim := { program := "ytodaiogefgdcpaa", sum := "5a753fdf42f05ac33cc4c066ba1891acabadcc65dc1ec444dfa7dc5afcb3c842", func := "syncope/syncopelaw11.ClockWaits", spec := "clockWaits", apart := false }
def ClockWaitsSaid : Prop := clockWaitsRow.holds Try.pinned (OpenSpec.ofChange clockWaitsSpec)

/-- ITS FALSE NEIGHBOUR: 'it returns false'. Refute it at one input. -/
def clockWaitsWrong : ChangeSpec := { name := "clockWaits", fn := fun _ => fun
  | [d1, d2] => { results := [.lit (.bool false)], args := [d1, d2] }
  | _ => none }
def ClockWaitsWrongFalsely : Prop := clockWaitsRow.holds Try.pinned (OpenSpec.ofChange clockWaitsWrong)

/-- 'syncopelaw20.CondqAsks': WHATEVER THE INPUT: true; the input reads as it did. -/
def condqAsksSpec : ChangeSpec := { name := "condqAsks", fn := fun _ => fun
  | [d1, d2, d3, d4] => { results := [.lit (.bool true)], args := [d1, d2, d3, d4] }
  | _ => none }
def condqAsksRow : OpenClaim := { program := "ytodaiogefgdcpaa", sum := "5a753fdf42f05ac33cc4c066ba1891acabadcc65dc1ec444dfa7dc5afcb3c842", func := "syncope/syncopelaw20.CondqAsks", spec := "condqAsks", apart := false }
def CondqAsksSaid : Prop := condqAsksRow.holds Try.pinned (OpenSpec.ofChange condqAsksSpec)

/-- ITS FALSE NEIGHBOUR: 'it returns false'. Refute it at one input. -/
def condqAsksWrong : ChangeSpec := { name := "condqAsks", fn := fun _ => fun
  | [d1, d2, d3, d4] => { results := [.lit (.bool false)], args := [d1, d2, d3, d4] }
  | _ => none }
def CondqAsksWrongFalsely : Prop := condqAsksRow.holds Try.pinned (OpenSpec.ofChange condqAsksWrong)

/-- 'syncopelaw20.CondqWords': WHATEVER THE INPUT: true; the input reads as it did. -/
def condqWordsSpec : ChangeSpec := { name := "condqWords", fn := fun _ => fun
  | [d1, d2, d3, d4] => { results := [.lit (.bool true)], args := [d1, d2, d3, d4] }
  | _ => none }
def condqWordsRow : OpenClaim := { program := "ytodaiogefgdcpaa", sum := "5a753fdf42f05ac33cc4c066ba1891acabadcc65dc1ec444dfa7dc5afcb3c842", func := "syncope/syncopelaw20.CondqWords", spec := "condqWords", apart := false }
def CondqWordsSaid : Prop := condqWordsRow.holds Try.pinned (OpenSpec.ofChange condqWordsSpec)

/-- ITS FALSE NEIGHBOUR: 'it returns false'. Refute it at one input. -/
def condqWordsWrong : ChangeSpec := { name := "condqWords", fn := fun _ => fun
  | [d1, d2, d3, d4] => { results := [.lit (.bool false)], args := [d1, d2, d3, d4] }
  | _ => none }
def CondqWordsWrongFalsely : Prop := condqWordsRow.holds Try.pinned (OpenSpec.ofChange condqWordsWrong)

/-- 'syncopelaw11.ClockAsks': WHATEVER THE INPUT: true; the input reads as it did. -/
def clockAsksSpec : ChangeSpec := { name := "clockAsks", fn := fun _ => fun
  | [d1, d2, d3, d4, d5, d6] => { results := [.lit (.bool true)], args := [d1, d2, d3, d4, d5, d6] }
  | _ => none }
def clockAsksRow : OpenClaim := { program := "ytodaiogefgdcpaa", sum := "5a753fdf42f05ac33cc4c066ba1891acabadcc65dc1ec444dfa7dc5afcb3c842", func := "syncope/syncopelaw11.ClockAsks", spec := "clockAsks", apart := false }
def ClockAsksSaid : Prop := clockAsksRow.holds Try.pinned (OpenSpec.ofChange clockAsksSpec)

/-- ITS FALSE NEIGHBOUR: 'it returns false'. Refute it at one input. -/
def clockAsksWrong : ChangeSpec := { name := "clockAsks", fn := fun _ => fun
  | [d1, d2, d3, d4, d5, d6] => { results := [.lit (.bool false)], args := [d1, d2, d3, d4, d5, d6] }
  | _ => none }
def ClockAsksWrongFalsely : Prop := clockAsksRow.holds Try.pinned (OpenSpec.ofChange clockAsksWrong)

/-- 'syncopelaw20.CondqOrder': WHATEVER THE INPUT: true; the input reads as it did. -/
def condqOrderSpec : ChangeSpec := { name := "condqOrder", fn := fun _ => fun
  | [d] => { results := [.lit (.bool true)], args := [d] }
  | _ => none }
def condqOrderRow : OpenClaim := { program := "ytodaiogefgdcpaa", sum := "5a753fdf42f05ac33cc4c066ba1891acabadcc65dc1ec444dfa7dc5afcb3c842", func := "syncope/syncopelaw20.CondqOrder", spec := "condqOrder", apart := false }
def CondqOrderSaid : Prop := condqOrderRow.holds Try.pinned (OpenSpec.ofChange condqOrderSpec)

/-- ITS FALSE NEIGHBOUR: 'it returns false'. Refute it at one input. -/
def condqOrderWrong : ChangeSpec := { name := "condqOrder", fn := fun _ => fun
  | [d] => { results := [.lit (.bool false)], args := [d] }
  | _ => none }
def CondqOrderWrongFalsely : Prop := condqOrderRow.holds Try.pinned (OpenSpec.ofChange condqOrderWrong)

/-- 'syncopelaw20.CondqLost': WHATEVER THE INPUT: true; the input reads as it did. -/
def condqLostSpec : ChangeSpec := { name := "condqLost", fn := fun _ => fun
  | [d1, d2] => { results := [.lit (.bool true)], args := [d1, d2] }
  | _ => none }
def condqLostRow : OpenClaim := { program := "ytodaiogefgdcpaa", sum := "5a753fdf42f05ac33cc4c066ba1891acabadcc65dc1ec444dfa7dc5afcb3c842", func := "syncope/syncopelaw20.CondqLost", spec := "condqLost", apart := false }
def CondqLostSaid : Prop := condqLostRow.holds Try.pinned (OpenSpec.ofChange condqLostSpec)

/-- ITS FALSE NEIGHBOUR: 'it returns false'. Refute it at one input. -/
def condqLostWrong : ChangeSpec := { name := "condqLost", fn := fun _ => fun
  | [d1, d2] => { results := [.lit (.bool false)], args := [d1, d2] }
  | _ => none }
def CondqLostWrongFalsely : Prop := condqLostRow.holds Try.pinned (OpenSpec.ofChange condqLostWrong)

/- THE SECOND FORM. 'bulk': how many values and letters a reading holds, each counted each time it is reached (what is shared counts as often as it is met; a slice's spare places count too). A statement '..UptoSaid' is the law's where the arguments, and the package variables that the reading takes, are together of bulk at most 1048576: NARROWER than '..Said'. Prove '..Said' where nothing that the law and all that it calls make is longer than what came in: it says more and counts as full. Else prove '..UptoSaid'. A law counts once. -/
mutual
def uptoBulk {H : Type} : DataW H → Nat
  | .lit (.string bytes) => bytes.length + 1
  | .lit _ => 1
  | .nil => 1
  | .ptr d => uptoBulk d + 1
  | .slice elems spare => uptoBulkAll elems + uptoBulkAll spare + 1
  | .agg parts => uptoBulkAll parts + 1
  | .iface _ d => uptoBulk d + 1
  | .map entries => uptoBulkEntries entries + 1
  | .held _ => 1
def uptoBulkAll {H : Type} : List (DataW H) → Nat
  | [] => 0
  | d :: r => uptoBulk d + uptoBulkAll r
def uptoBulkEntries {H : Type} : List (Lit × DataW H) → Nat
  | [] => 0
  | x :: r => uptoBulkEntry x + uptoBulkEntries r
def uptoBulkEntry {H : Type} : Lit × DataW H → Nat
  | (.string bytes, d) => bytes.length + uptoBulk d + 1
  | (_, d) => uptoBulk d + 1
 end
def uptoSmall : (H : Type) → List (DataW H) → Bool := fun _ ds => decide (uptoBulkAll ds ≤ 1048576)
def OpenSpec.upto (s : _root_.Go.ChangeSpec) : _root_.Go.OpenSpec := { _root_.Go.OpenSpec.ofChange s with cond := some uptoSmall }

/-- 'syncopelaw8.TicketApart', WHERE WHAT IT READS IS OF BULK AT MOST 1048576: true; the input reads as it did. -/
def ticketApartUptoRow : OpenClaim := { program := "ytodaiogefgdcpaa", sum := "5a753fdf42f05ac33cc4c066ba1891acabadcc65dc1ec444dfa7dc5afcb3c842", func := "syncope/syncopelaw8.TicketApart", spec := "ticketApart", apart := false, narrowed := true }
def TicketApartUptoSaid : Prop := ticketApartUptoRow.holds Try.pinned (OpenSpec.upto ticketApartSpec)

/-- 'syncopelaw8.TicketOrder', WHERE WHAT IT READS IS OF BULK AT MOST 1048576: true; the input reads as it did. -/
def ticketOrderUptoRow : OpenClaim := { program := "ytodaiogefgdcpaa", sum := "5a753fdf42f05ac33cc4c066ba1891acabadcc65dc1ec444dfa7dc5afcb3c842", func := "syncope/syncopelaw8.TicketOrder", spec := "ticketOrder", apart := false, narrowed := true }
def TicketOrderUptoSaid : Prop := ticketOrderUptoRow.holds Try.pinned (OpenSpec.upto ticketOrderSpec)

/-- 'syncopelaw8.TicketAsks', WHERE WHAT IT READS IS OF BULK AT MOST 1048576: true; the input reads as it did. -/
def ticketAsksUptoRow : OpenClaim := { program := "ytodaiogefgdcpaa", sum := "5a753fdf42f05ac33cc4c066ba1891acabadcc65dc1ec444dfa7dc5afcb3c842", func := "syncope/syncopelaw8.TicketAsks", spec := "ticketAsks", apart := false, narrowed := true }
def TicketAsksUptoSaid : Prop := ticketAsksUptoRow.holds Try.pinned (OpenSpec.upto ticketAsksSpec)

/-- 'syncopelaw11.ClockOwn', WHERE WHAT IT READS IS OF BULK AT MOST 1048576: true; the input reads as it did. -/
def clockOwnUptoRow : OpenClaim := { program := "ytodaiogefgdcpaa", sum := "5a753fdf42f05ac33cc4c066ba1891acabadcc65dc1ec444dfa7dc5afcb3c842", func := "syncope/syncopelaw11.ClockOwn", spec := "clockOwn", apart := false, narrowed := true }
def ClockOwnUptoSaid : Prop := clockOwnUptoRow.holds Try.pinned (OpenSpec.upto clockOwnSpec)

/-- 'syncopelaw11.ClockJoin', WHERE WHAT IT READS IS OF BULK AT MOST 1048576: true; the input reads as it did. -/
def clockJoinUptoRow : OpenClaim := { program := "ytodaiogefgdcpaa", sum := "5a753fdf42f05ac33cc4c066ba1891acabadcc65dc1ec444dfa7dc5afcb3c842", func := "syncope/syncopelaw11.ClockJoin", spec := "clockJoin", apart := false, narrowed := true }
def ClockJoinUptoSaid : Prop := clockJoinUptoRow.holds Try.pinned (OpenSpec.upto clockJoinSpec)

/-- 'syncopelaw11.ClockWaits', WHERE WHAT IT READS IS OF BULK AT MOST 1048576: true; the input reads as it did. -/
def clockWaitsUptoRow : OpenClaim := { program := "ytodaiogefgdcpaa", sum := "5a753fdf42f05ac33cc4c066ba1891acabadcc65dc1ec444dfa7dc5afcb3c842", func := "syncope/syncopelaw11.ClockWaits", spec := "clockWaits", apart := false, narrowed := true }
def ClockWaitsUptoSaid : Prop := clockWaitsUptoRow.holds Try.pinned (OpenSpec.upto clockWaitsSpec)

/-- 'syncopelaw20.CondqAsks', WHERE WHAT IT READS IS OF BULK AT MOST 1048576: true; the input reads as it did. -/
def condqAsksUptoRow : OpenClaim := { program := "ytodaiogefgdcpaa", sum := "5a753fdf42f05ac33cc4c066ba1891acabadcc65dc1ec444dfa7dc5afcb3c842", func := "syncope/syncopelaw20.CondqAsks", spec := "condqAsks", apart := false, narrowed := true }
def CondqAsksUptoSaid : Prop := condqAsksUptoRow.holds Try.pinned (OpenSpec.upto condqAsksSpec)

/-- 'syncopelaw20.CondqWords', WHERE WHAT IT READS IS OF BULK AT MOST 1048576: true; the input reads as it did. -/
def condqWordsUptoRow : OpenClaim := { program := "ytodaiogefgdcpaa", sum := "5a753fdf42f05ac33cc4c066ba1891acabadcc65dc1ec444dfa7dc5afcb3c842", func := "syncope/syncopelaw20.CondqWords", spec := "condqWords", apart := false, narrowed := true }
def CondqWordsUptoSaid : Prop := condqWordsUptoRow.holds Try.pinned (OpenSpec.upto condqWordsSpec)

/-- 'syncopelaw11.ClockAsks', WHERE WHAT IT READS IS OF BULK AT MOST 1048576: true; the input reads as it did. -/
def clockAsksUptoRow : OpenClaim := { program := "ytodaiogefgdcpaa", sum := "5a753fdf42f05ac33cc4c066ba1891acabadcc65dc1ec444dfa7dc5afcb3c842", func := "syncope/syncopelaw11.ClockAsks", spec := "clockAsks", apart := false, narrowed := true }
def ClockAsksUptoSaid : Prop := clockAsksUptoRow.holds Try.pinned (OpenSpec.upto clockAsksSpec)

/-- 'syncopelaw20.CondqOrder', WHERE WHAT IT READS IS OF BULK AT MOST 1048576: true; the input reads as it did. -/
def condqOrderUptoRow : OpenClaim := { program := "ytodaiogefgdcpaa", sum := "5a753fdf42f05ac33cc4c066ba1891acabadcc65dc1ec444dfa7dc5afcb3c842", func := "syncope/syncopelaw20.CondqOrder", spec := "condqOrder", apart := false, narrowed := true }
def CondqOrderUptoSaid : Prop := condqOrderUptoRow.holds Try.pinned (OpenSpec.upto condqOrderSpec)

/-- 'syncopelaw20.CondqLost', WHERE WHAT IT READS IS OF BULK AT MOST 1048576: true; the input reads as it did. -/
def condqLostUptoRow : OpenClaim := { program := "ytodaiogefgdcpaa", sum := "5a753fdf42f05ac33cc4c066ba1891acabadcc65dc1ec444dfa7dc5afcb3c842", func := "syncope/syncopelaw20.CondqLost", spec := "condqLost", apart := false, narrowed := true }
def CondqLostUptoSaid : Prop := condqLostUptoRow.holds Try.pinned (OpenSpec.upto condqLostSpec)

end Rows
end Go.Proofs.Ytodaiogefgdcpaa
