/- Looks at a memory that leave the world alone; Same of the two memories. -/
import Derived.Test.YtfmamedkiaimpaaMemAll
import Derived.Deep.RegionHeld3
namespace Go.Proofs.Ytfmamedkiaimpaa
open Go.RowKit

theorem Calls.turn {P : Program} {f : FuncId} {args : Array Value} {w : World} {v : Value} (h : Calls P f args w fun e w' => e = .returned v ∧ w = w') : Calls P f args w fun e w' => e = .returned v ∧ w' = w :=
  h.mono fun _ _ ⟨he, hw⟩ => ⟨he, hw.symm⟩
theorem Keeps.drewNs {S : Nat → Prop} (w : World) (n : Nat) : Keeps S w (w.drewN n) := (Keeps.refl S w).drewN n
theorem MemT.drewN {T : TypeId} {w : World} {a : Nat} {v : Value} {M : MemS} (h : MemT T w a v M) (n : Nat) : MemT T (w.drewN n) a v M := h.keep (Keeps.drewNs (S := NoS) w n) (fun f => f) (fun _ _ f => f)
theorem MemT.drew {T : TypeId} {w : World} {a : Nat} {v : Value} {M : MemS} (h : MemT T w a v M) : MemT T w.drew a v M := h.keep ((Keeps.refl NoS w).drew) (fun f => f) (fun _ _ f => f)
theorem bad_ok' (a : Nat) (v : Value) (M : MemS) (i : Nat) (w : World) (h : MemAt w a v M) (hi : i < M.L.length) : Calls Try.prog 43 #[.pointer (some ⟨a, 0, none⟩), .int .i64 i] w fun e w' => e = .returned (.int .i64 0) ∧ w = w' := by
  obtain ⟨c0, _⟩ := h.cells
  obtain ⟨p, c, rfl⟩ := h.slice
  clear h
  go_enter Try.func43, Try.ntmps43
  go_wp2
  go_ret
  exact ⟨rfl, rfl⟩
theorem bad_out' (a : Nat) (v : Value) (M : MemS) (i : Int) (w : World) (h : MemAt w a v M) (hi : M.out i) : Calls Try.prog 43 #[.pointer (some ⟨a, 0, none⟩), .int .i64 i] w fun e w' => e = .returned (.int .i64 2) ∧ w = w' := by
  obtain ⟨c0, _⟩ := h.cells
  obtain ⟨p, c, rfl⟩ := h.slice
  clear h
  by_cases h0 : i < 0
  · go_enter Try.func43, Try.ntmps43
    go_wp2
    go_ret
    exact ⟨rfl, rfl⟩
  · obtain ⟨n, rfl⟩ := Int.eq_ofNat_of_zero_le (show 0 ≤ i by omega)
    have hi : M.L.length ≤ n := by rcases hi with h | h <;> omega
    go_enter Try.func43, Try.ntmps43
    go_wp2
    go_ret
    exact ⟨rfl, rfl⟩
theorem peek_at (a : Nat) (v : Value) (M : MemS) (i : Nat) (w : World) (h : MemAt w a v M) (hi : i < M.L.length) :
    Calls Try.prog 18 #[.pointer (some ⟨a, 0, none⟩), .int .i64 i] w fun e w' => e = .returned (.int .i64 (M.word i)) ∧ w = w' := by
  obtain ⟨c0, _⟩ := h.cells
  obtain ⟨g, c, rfl, hga, hc, _, _⟩ := h.word i hi
  go_enter Try.func18, Try.ntmps18
  go_wp2_with (go_at_call 43; refine (bad_ok' a _ M i w h hi).mono ?_; rintro e w1 ⟨rfl, rfl⟩)
  go_ret
  exact ⟨rfl, rfl⟩
theorem peek_none (a : Nat) (v : Value) (M : MemS) (i : Int) (w : World) (h : MemAt w a v M) (hi : M.out i) :
    Calls Try.prog 18 #[.pointer (some ⟨a, 0, none⟩), .int .i64 i] w fun e w' => e = .returned (.int .i64 0) ∧ w = w' := by
  go_enter Try.func18, Try.ntmps18
  go_wp2_with (go_at_call 43; refine (bad_out' a v M i w h hi).mono ?_; rintro e w1 ⟨rfl, rfl⟩)
  go_ret
  exact ⟨rfl, rfl⟩
/-- numbers that something owns -/
theorem owns_ints {w : World} {v : Value} {L : List Int} {n : Nat} (h : w.ownsRow 0 2 1 v n (intsV L)) (hn : 0 < n) : ∃ g cap, v = .slice (some ⟨g, 0, none⟩) n cap ∧ g < w.heap.size ∧
    (∀ j, j < n → w.cell? ⟨g, j, none⟩ = some (.int .i64 (L.getD j 0))) ∧ (∀ j, w.frozen? ⟨g, j, none⟩ = false) := by
  have hl := h.1
  rw [intsV_len] at hl
  rcases h.2 with ⟨_, hz⟩ | ⟨g, cap, cur, rfl, _, hg, _⟩
  · omega
  · refine ⟨g, cap, rfl, blk_lt hg, fun j hj => ?_, blk_free hg⟩
    rw [← add_zero_off]
    exact h.cells (g := g) rfl j _ (intsV_get _ _ (by omega))
end Go.Proofs.Ytfmamedkiaimpaa
