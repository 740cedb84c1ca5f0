/- All, Last of a memory; the document's and the program's side by side. -/
import Derived.Test.YtfmamedkiaimpaaMemRef
import Derived.Test.YtfmamedkiaimpaaAppend
namespace Go.Proofs.Ytfmamedkiaimpaa
open Go.RowKit

theorem infoI64' : (Try.prog.info? 2).map (fun i => (i.zero, i.size, i.bytes)) = some (some (.int .i64 0), 1, 8) := by kernel_rfl
theorem oneCells_ints (L : List Int) : ∀ u ∈ intsV L, u.oneCell' = true := by
  intro u hu; simp [intsV] at hu; obtain ⟨x, _, rfl⟩ := hu; rfl
end Go.Proofs.Ytfmamedkiaimpaa
