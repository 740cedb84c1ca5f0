/- The walk of MemLimit. -/
import Derived.Test.YtldleacoajlinaaMemSame
namespace Go.Proofs.Ytldleacoajlinaa
open Go.RowKit
theorem new_big (p : Option Addr) (n c : Nat) (w : World) (h : 4096 < n) (h' : n ≤ 100000) : Calls Try.prog 38 #[.slice p n c] w fun e w' => e = .returned (.pointer none) ∧ w = w' := by
  go_enter Try.func38, Try.ntmps38
  go_wp2
  go_ret
  exact ⟨rfl, rfl⟩
theorem all_nil (w : World) : Calls Try.prog 54 #[.pointer none] w fun e w' => e = .returned (.slice none 0 0) ∧ w = w' := by
  go_enter Try.func54, Try.ntmps54
  go_wp2
  go_ret
  exact ⟨rfl, rfl⟩
theorem made_zeros (w : World) (g n : Nat) (h : w.ownsRow 0 2 1 (.slice (some ⟨g, 0, none⟩) n n) n (madeCells (Value.int .i64 0).cells (n * 1)).toList) : ∀ k, k < n → w.cell? ⟨g, 0 + k, none⟩ = some (.int .i64 ((List.replicate n 0).getD k 0)) := by
  intro k hk
  have e : (madeCells (Value.int .i64 0).cells (n * 1)).toList[k]? = some (.int .i64 0) := by
    have hs : (Value.int .i64 0).cells = #[.int .i64 0] := rfl
    unfold madeCells
    simp [hs, hk, Nat.mod_one]
  have := h.cells (g := g) rfl k _ e
  rw [add_zero_off] at this
  rw [Nat.zero_add, this]
  simp [List.getD_eq_getElem?_getD, hk]
theorem new_someN (b off c n : Nat) (zs : List Int) (w : World) (hl : zs.length = n) (h0 : 0 < n) (h1 : n ≤ 4096) (hc : ∀ k, k < n → w.cell? ⟨b, off + k, none⟩ = some (.int .i64 (zs.getD k 0))) :
    Calls Try.prog 38 #[.slice (some ⟨b, off, none⟩) n c] w fun e w' => ∃ a v, e = .returned (.pointer (some ⟨a, 0, none⟩)) ∧ MemAt w' a v (MemS.new zs) ∧ w.heap.size ≤ a ∧ (∀ g, v.ownBlock = some g → w.heap.size ≤ g) ∧ Keeps NoS w w' := by
  subst hl
  exact new_some b off c zs w h0 h1 hc
set_option maxHeartbeats 400000 in
set_option maxRecDepth 100000 in
theorem memLimit_walk (w : World) (a0 : Int) (_w0 : (Lit.int .i64 a0).wf = true) :
    Calls Try.prog 16 #[.int .i64 a0] w fun e w' => e = .returned (.bool true) ∧ Keeps NoS w w' := by
  obtain ⟨n1, n2⟩ := u64_tmod_bd a0 5 (by decide)
  obtain ⟨r, hr⟩ : ∃ r : Nat, (IntKind.u64.wrap a0).tmod 5 = (r : Int) := Int.eq_ofNat_of_zero_le n1
  rw [hr] at n1 n2
  obtain ⟨i0, hi, hz0, hz1, hz2⟩ := info_parts infoI64
  have b : (4094 + (r : Int)) = ((4094 + r : Nat) : Int) := by omega
  obtain ⟨n, hn⟩ : ∃ n, 4094 + r = n := ⟨_, rfl⟩
  rw [hn] at b
  have hB := Lib.hid b
  have hn0 : 4094 ≤ n := by omega
  have hn2 : n ≤ 4098 := by omega
  have m1 : i0.bytes * n ≤ 281474976710656 := by rw [hz2]; omega
  have m2 : n ≤ maxLen := by unfold maxLen; omega
  have hln : (MemS.new (List.replicate n 0)).L.length = n := by simp [MemS.new]
  have HLN := Lib.hid hln
  by_cases hle : r ≤ 2
  · have hn1 : n ≤ 4096 := by omega
    clear b hn hln
    go_enter Try.func16, Try.ntmps16
    go_wp2_with (first
      | (refine wpList_make_full _ rfl _ _ 44 rfl 0 2 i0 (.int .i64 0) 1 Try.underlying44 hi hz0 hz1 .i64 .i64 _ _ n rfl rfl hB.out hB.out m1 m2 (Nat.zero_le _) ?_; intro w1 hown hgr)
      | (go_at_call 38; refine (new_someN w.heap.size 0 n n (List.replicate n 0) w1 (by simp) (by omega) hn1 (made_zeros w1 w.heap.size n hown)).mono ?_; rintro e w2 ⟨a, v, rfl, hm, ha, hv, hk⟩; have h2 := fresh_in ((Keeps.refl NoS w).grown hgr (fun k hk => by cases hk)) hm ha hv hk; clear hm ha hv hk)
      | (go_at_call 63; refine (load_nil _ _).mono ?_; rintro e w3 ⟨rfl, rfl⟩)
      | (go_at_call 52; refine (swap_nil _ _ _ _).mono ?_; rintro e w4 ⟨rfl, rfl⟩)
      | (go_at_call 37; refine (told2_any _).mono ?_; rintro e w5 ⟨rfl, hk5⟩; have h5 := h2.keep hk5)
      | (go_at_call 65; refine (store_nil _ _ _).mono ?_; rintro e w6 ⟨rfl, rfl⟩)
      | (go_at_call 53; refine (steps_nil _).mono ?_; rintro e w7 ⟨rfl, rfl⟩)
      | (go_at_call 40; refine (peek_nil _ _).mono ?_; rintro e w8 ⟨rfl, rfl⟩)
      | (go_at_call 54; refine (all_nil _).mono ?_; rintro e w9 ⟨rfl, rfl⟩)
      | (go_at_call 64; (with_reducible refine (mlen_nil _).mono ?_); rintro e w10 ⟨rfl, rfl⟩)
      | (go_at_call 64; (with_reducible refine (mlen_any a v _ _ h5.m).mono ?_); rw [HLN.out]; rintro e w11 ⟨rfl, rfl⟩))
    all_goals have h3 := hB.out
    all_goals go_ret
    all_goals exact ⟨by first | (simp; done) | (simp; omega), h5.kp⟩
  · have hn1 : 4096 < n := by omega
    clear b hn hln
    go_enter Try.func16, Try.ntmps16
    go_wp2_with (first
      | (refine wpList_make_full _ rfl _ _ 44 rfl 0 2 i0 (.int .i64 0) 1 Try.underlying44 hi hz0 hz1 .i64 .i64 _ _ n rfl rfl hB.out hB.out m1 m2 (Nat.zero_le _) ?_; intro w1 hown hgr)
      | (go_at_call 38; refine (new_big _ n n w1 hn1 (by omega)).mono ?_; rintro e w2 ⟨rfl, rfl⟩)
      | (go_at_call 63; refine (load_nil _ _).mono ?_; rintro e w3 ⟨rfl, rfl⟩)
      | (go_at_call 52; refine (swap_nil _ _ _ _).mono ?_; rintro e w4 ⟨rfl, rfl⟩)
      | (go_at_call 37; refine (told2_any _).mono ?_; rintro e w5 ⟨rfl, hk5⟩)
      | (go_at_call 65; refine (store_nil _ _ _).mono ?_; rintro e w6 ⟨rfl, rfl⟩)
      | (go_at_call 53; refine (steps_nil _).mono ?_; rintro e w7 ⟨rfl, rfl⟩)
      | (go_at_call 40; refine (peek_nil _ _).mono ?_; rintro e w8 ⟨rfl, rfl⟩)
      | (go_at_call 54; refine (all_nil _).mono ?_; rintro e w9 ⟨rfl, rfl⟩)
      | (go_at_call 64; refine (mlen_nil _).mono ?_; rintro e w10 ⟨rfl, rfl⟩))
    all_goals have h3 := hB.out
    all_goals go_ret
    all_goals exact ⟨by first | (simp; done) | (simp; omega), ((Keeps.refl NoS w).grown hgr (fun k hk => by cases hk)).trans hk5⟩
end Go.Proofs.Ytldleacoajlinaa
