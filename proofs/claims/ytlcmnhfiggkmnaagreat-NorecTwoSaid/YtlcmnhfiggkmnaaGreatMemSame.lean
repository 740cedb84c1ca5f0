/- Looks at a memory that leave the world alone; Same of the two memories. -/
import Derived.Test.YtlcmnhfiggkmnaaGreatMemAll
import Derived.Deep.RegionHeld3
namespace Go.Proofs.YtlcmnhfiggkmnaaGreat
open Go.RowKit

theorem Calls.turn {P : Program} {f : FuncId} {args : Array Value} {w : World} {v : Value} (h : Calls P f args w fun e w' => e = .returned v ∧ w = w') : Calls P f args w fun e w' => e = .returned v ∧ w' = w :=
  h.mono fun _ _ ⟨he, hw⟩ => ⟨he, hw.symm⟩
theorem Keeps.drewNs {S : Nat → Prop} (w : World) (n : Nat) : Keeps S w (w.drewN n) := (Keeps.refl S w).drewN n
theorem MemT.drewN {T : TypeId} {w : World} {a : Nat} {v : Value} {M : MemS} (h : MemT T w a v M) (n : Nat) : MemT T (w.drewN n) a v M := h.keep (Keeps.drewNs (S := NoS) w n) (fun f => f) (fun _ _ f => f)
theorem MemT.drew {T : TypeId} {w : World} {a : Nat} {v : Value} {M : MemS} (h : MemT T w a v M) : MemT T w.drew a v M := h.keep ((Keeps.refl NoS w).drew) (fun f => f) (fun _ _ f => f)
theorem bad_ok' (a : Nat) (v : Value) (M : MemS) (i : Nat) (w : World) (h : MemAt w a v M) (hi : i < M.L.length) : Calls Tryz.prog 91 #[.pointer (some ⟨a, 0, none⟩), .int .i64 i] w fun e w' => e = .returned (.int .i64 0) ∧ w = w' := by
  obtain ⟨c0, _⟩ := h.cells
  obtain ⟨p, c, rfl⟩ := h.slice
  clear h
  go_enter Tryz.func91, Tryz.ntmps91
  go_wp2
  go_ret
  exact ⟨rfl, rfl⟩
theorem bad_out' (a : Nat) (v : Value) (M : MemS) (i : Int) (w : World) (h : MemAt w a v M) (hi : M.out i) : Calls Tryz.prog 91 #[.pointer (some ⟨a, 0, none⟩), .int .i64 i] w fun e w' => e = .returned (.int .i64 2) ∧ w = w' := by
  obtain ⟨c0, _⟩ := h.cells
  obtain ⟨p, c, rfl⟩ := h.slice
  clear h
  by_cases h0 : i < 0
  · go_enter Tryz.func91, Tryz.ntmps91
    go_wp2
    go_ret
    exact ⟨rfl, rfl⟩
  · obtain ⟨n, rfl⟩ := Int.eq_ofNat_of_zero_le (show 0 ≤ i by omega)
    have hi : M.L.length ≤ n := by rcases hi with h | h <;> omega
    go_enter Tryz.func91, Tryz.ntmps91
    go_wp2
    go_ret
    exact ⟨rfl, rfl⟩
/-- numbers that something owns -/
theorem owns_ints {w : World} {v : Value} {L : List Int} {n : Nat} (h : w.ownsRow 0 2 1 v n (intsV L)) (hn : 0 < n) : ∃ g cap, v = .slice (some ⟨g, 0, none⟩) n cap ∧ g < w.heap.size ∧
    (∀ j, j < n → w.cell? ⟨g, j, none⟩ = some (.int .i64 (L.getD j 0))) ∧ (∀ j, w.frozen? ⟨g, j, none⟩ = false) := by
  have hl := h.1
  rw [intsV_len] at hl
  rcases h.2 with ⟨_, hz⟩ | ⟨g, cap, cur, rfl, _, hg, _⟩
  · omega
  · refine ⟨g, cap, rfl, blk_lt hg, fun j hj => ?_, blk_free hg⟩
    rw [← add_zero_off]
    exact h.cells (g := g) rfl j _ (intsV_get _ _ (by omega))
set_option maxRecDepth 100000 in
theorem same_any (a c : Nat) (v u : Value) (M N : MemS) (w : World) (hm : MemAt w a v M) (hr : RefAt w c u N) (hl : M.L = N.L) :
    Calls Tryz.prog 22 #[.pointer (some ⟨a, 0, none⟩), .pointer (some ⟨c, 0, none⟩)] w fun e w' => e = .returned (.bool true) ∧ Keeps NoS w w' := by
  go_enter Tryz.func22, Tryz.ntmps22
  go_wp2_with fail
  refine (all_any a v M w hm).mono ?_
  rintro e w1 ⟨x, rfl, hown, hnew, hk⟩
  have hm1 := hm.keep hk (fun f => f) (fun _ _ f => f)
  have hr1 := hr.keep hk (fun f => f) (fun _ _ f => f)
  clear hm hr hnew
  obtain ⟨c0, _⟩ := hr1.cells
  obtain ⟨pu, cu, rfl⟩ := hr1.slice
  obtain ⟨px, cx, rfl⟩ := owns_slice hown
  have hor := hr1.ow
  have hsm := hr1.small
  have hlen : ∀ q, Calls Tryz.prog 52 #[.pointer (some ⟨a, 0, none⟩)] (w1.drewN q) fun e w' => e = .returned (.int .i64 M.L.length) ∧ w' = w1.drewN q := fun q => Calls.turn (mlen_any a v M _ (hm1.drewN q))
  rw [hl] at hown hlen
  rw [hl]
  have HQ := Lib.hid hlen
  clear hl hlen hr1 hm1
  generalize hn : N.L.length = n at *
  have HO := Lib.hid hown; have HR := Lib.hid hor; have HK := Lib.hid hk
  clear hown hor hk hn
  go_wp2_with fail
  go_quiet ((go_at_call 52; exact Calls.quiet_of_same (HQ.out _)))
  clear HQ
  go_wp2_with fail
  go_loopw [6] (fun i wr => ∃ k q : Nat, k ≤ n ∧ i = .int .i64 k ∧ wr = w1.drewN q) (fun i _ => n - (intOf i).toNat)
  case atStart => exact ⟨0, _, by omega, rfl, rfl⟩
  case round =>
    obtain ⟨k, q, hk, rfl, rfl⟩ := hrel
    by_cases hlt : k < n
    · obtain ⟨g, c1, e1, _, hc1, _⟩ := owns_ints HO.out (by omega)
      obtain ⟨g', c1', e2, _, hc2, _⟩ := owns_ints HR.out (by omega)
      simp only [Value.slice.injEq, true_and] at e1 e2
      obtain ⟨rfl, rfl⟩ := e1
      obtain ⟨rfl, rfl⟩ := e2
      have d0 : w1.cell? ⟨c, 0, none⟩ = some (.slice (some ⟨g', 0, none⟩) n cu) := c0
      have d1 : w1.cell? ⟨g, k, none⟩ = some (.int .i64 (N.L.getD k 0)) := hc1 k hlt
      have d2 : w1.cell? ⟨g', k, none⟩ = some (.int .i64 (N.L.getD k 0)) := hc2 k hlt
      clear hc1 hc2 c0
      generalize N.L.getD k 0 = y at *
      go_wp2_with fail
      go_quiet (fail)
      go_wp2_with fail
      go_roundw
      case rel => exact ⟨k + 1, _, by omega, by go_num, rfl⟩
      case measure => simp [intOf]; omega
    · obtain rfl : k = n := by omega
      go_wp2_with fail
      go_ret
      exact ⟨rfl, HK.out.trans (Keeps.drewNs _ _)⟩
end Go.Proofs.YtlcmnhfiggkmnaaGreat
