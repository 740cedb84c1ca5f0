/- A map that may be, near any numbers. -/
import Derived.Test.YtbjecjjfiicabaaLaw8
namespace Go.Proofs.Ytbjecjjfiicabaa
open Go.RowKit
/-- a map that may be, near any numbers -/
def nearM (k : List Int) : MapS := ⟨1 + (IntKind.u64.wrap (k.getD 0 0)).tmod 16, (IntKind.u64.wrap (k.getD 1 0)).tmod 5, 1 + (IntKind.u64.wrap (k.getD 2 0)).tmod 4, (IntKind.u64.wrap (k.getD 3 0)).tmod 5, (IntKind.u64.wrap (k.getD 4 0)).tmod 33⟩
theorem nearM_may (k : List Int) : May (nearM k) := by
  obtain ⟨a1, a2⟩ := u64_tmod_bd (k.getD 0 0) 16 (by decide)
  obtain ⟨b1, b2⟩ := u64_tmod_bd (k.getD 1 0) 5 (by decide)
  obtain ⟨c1, c2⟩ := u64_tmod_bd (k.getD 2 0) 4 (by decide)
  obtain ⟨d1, d2⟩ := u64_tmod_bd (k.getD 3 0) 5 (by decide)
  obtain ⟨e1, e2⟩ := u64_tmod_bd (k.getD 4 0) 33 (by decide)
  constructor <;> simp only [nearM] <;> omega
theorem nums5 (k : List Int) (h : k.length = 5) : nums k = #[.int .i64 (k.getD 0 0), .int .i64 (k.getD 1 0), .int .i64 (k.getD 2 0), .int .i64 (k.getD 3 0), .int .i64 (k.getD 4 0)] := by
  match k, h with
  | [a, b, c, d, e], _ => rfl
set_option maxRecDepth 100000 in
theorem nearm_any (k : List Int) (h : k.length = 5) (w : World) : Calls Try.prog 12 #[.agg (nums k)] w fun e w' => e = .returned (mapV (nearM k)) ∧ Keeps NoS w w' := by
  rw [nums5 k h]
  unfold mapV nearM
  dsimp only
  obtain ⟨a1, a2⟩ := u64_tmod_bd (k.getD 0 0) 16 (by decide)
  obtain ⟨b1, b2⟩ := u64_tmod_bd (k.getD 1 0) 5 (by decide)
  obtain ⟨c1, c2⟩ := u64_tmod_bd (k.getD 2 0) 4 (by decide)
  obtain ⟨d1, d2⟩ := u64_tmod_bd (k.getD 3 0) 5 (by decide)
  obtain ⟨e1, e2⟩ := u64_tmod_bd (k.getD 4 0) 33 (by decide)
  generalize k.getD 0 0 = k0 at *
  generalize k.getD 1 0 = k1 at *
  generalize k.getD 2 0 = k2 at *
  generalize k.getD 3 0 = k3 at *
  generalize k.getD 4 0 = k4 at *
  go_enter Try.func12, Try.ntmps12
  go_wp2
  refine bodyPost_ret (v := .agg #[.int .i64 (1 + (IntKind.u64.wrap k0).tmod 16), .int .i64 ((IntKind.u64.wrap k1).tmod 5), .int .i64 (1 + (IntKind.u64.wrap k2).tmod 4), .int .i64 ((IntKind.u64.wrap k3).tmod 5), .int .i64 ((IntKind.u64.wrap k4).tmod 33)]) (by simp [results, Try.results12, go_sem]) rfl ⟨rfl, ?_⟩
  exact ((Keeps.refl NoS w).alloc _).alloc _
theorem nearm_lit (k0 k1 k2 k3 k4 : Int) (m : MapS) (h : nearM [k0, k1, k2, k3, k4] = m) (w : World) : Calls Try.prog 12 #[.agg #[.int .i64 k0, .int .i64 k1, .int .i64 k2, .int .i64 k3, .int .i64 k4]] w fun e w' => e = .returned (mapV m) ∧ Keeps NoS w w' := by
  subst h; exact nearm_any [k0, k1, k2, k3, k4] rfl w
theorem list5 {k : List Int} (h : k.length = 5) : ∃ k0 k1 k2 k3 k4, k = [k0, k1, k2, k3, k4] := by
  match k, h with
  | [a, b, c, d, e], _ => exact ⟨a, b, c, d, e, rfl⟩
end Go.Proofs.Ytbjecjjfiicabaa
