/- Layer 8's map, and the document's example. -/
import Derived.Test.YtodaiogefgdcpaaTicketIdle
namespace Go.Proofs.Ytodaiogefgdcpaa
open Go.RowKit
/-- layer 8's map -/
def m8 : MapS := ⟨2, 2, 4, 0, 2⟩
theorem m8_size : sizeP ⟨2, 2, 4, 0, 2⟩ = 48 := by kernel_rfl
theorem told_plain : ∃ M1 M2 : MemS, tkTake ⟨2, 2, 4, 0, 2⟩ (M0 48) ⟨0, 0, 0, false, 0⟩ = (M1, ⟨0, 0, 1, false, 0⟩) ∧ tkTake ⟨2, 2, 4, 0, 2⟩ M1 ⟨0, 0, 1, false, 0⟩ = (M2, ⟨0, 0, 9, false, 0⟩) ∧ M2.st = 2 :=
  ⟨(tkTake ⟨2, 2, 4, 0, 2⟩ (M0 48) ⟨0, 0, 0, false, 0⟩).1, (tkTake ⟨2, 2, 4, 0, 2⟩ (tkTake ⟨2, 2, 4, 0, 2⟩ (M0 48) ⟨0, 0, 0, false, 0⟩).1 ⟨0, 0, 1, false, 0⟩).1, by kernel_rfl, by kernel_rfl, by kernel_rfl⟩
set_option maxHeartbeats 2000000 in
set_option maxRecDepth 100000 in
theorem told8_any (w : World) : Calls Try.prog 14 #[] w fun e w' => e = .returned (.bool true) ∧ Keeps NoS w w' := by
  obtain ⟨i0, hi, hz0, hz1, hz2⟩ := info_parts infoI64
  have m1 : i0.bytes * 48 ≤ 281474976710656 := by rw [hz2]; omega
  have m2 : 48 ≤ maxLen := by unfold maxLen; omega
  obtain ⟨M1, M2, e1, e2, e3⟩ := told_plain
  have E1 := Lib.hid e1; have E2 := Lib.hid e2
  clear e1 e2
  go_enter Try.func14, Try.ntmps14
  go_wp2_with (go_at_call 15; refine (map8_any _).mono ?_; rintro e w1 ⟨rfl, hk1⟩)
  have hB := mapAt_new w1 2 2 4 0 2 25
  have hk1' := hk1.alloc (.cells #[.int .i64 2, .int .i64 2, .int .i64 4, .int .i64 0, .int .i64 2] 25)
  obtain ⟨B, hBe⟩ : ∃ B, w1.heap.size = B := ⟨_, rfl⟩
  rw [hBe] at hB
  rw [hBe]
  have hBl : B < (w1.alloc (.cells #[.int .i64 2, .int .i64 2, .int .i64 4, .int .i64 0, .int .i64 2] 25)).heap.size := by rw [← hBe]; simp
  generalize w1.alloc (.cells #[.int .i64 2, .int .i64 2, .int .i64 4, .int .i64 0, .int .i64 2] 25) = W at *
  refine (size_lit 2 2 4 0 2 48 m8_size _).mono ?_
  rintro e w2 ⟨rfl, hk2⟩
  have hB2 := hB.keep hk2 (fun f => f)
  have hK2 := hk1'.trans hk2
  have hBl2 := Nat.lt_of_lt_of_le hBl hk2.size
  clear hk1' hk2 hB hk1 hBe hBl
  go_wp2_with (first
    | (refine wpList_make_full _ rfl _ _ 49 rfl 0 2 i0 (.int .i64 0) 1 Try.underlying49 hi hz0 hz1 .i64 .i64 _ _ 48 rfl rfl rfl rfl m1 m2 (Nat.zero_le _) ?_; intro w3 hown hgr; have hz := made_zeros w3 _ 48 hown; have hk3 : Keeps NoS w2 w3 := (Keeps.refl NoS w2).grown hgr (fun k hk => by cases hk); have hB3 := hB2.keep hk3 (fun f => f); have hK3 := hK2.trans hk3; clear hgr hown)
    | (go_at_call 28; refine (new_someN w2.heap.size 0 48 48 (List.replicate 48 0) w3 (by simp) (by decide) (by decide) hz).mono ?_; rintro e w4 ⟨a, v, rfl, hm, ha, hv, hk⟩; have h4 := fresh_in hK3 hm ha hv hk; have hB4 := hB3.keep hk (fun f => f); have hBl4 : B < w4.heap.size := by { have := hk.size; have := hk3.size; omega }; have hB5 : ¬ own2m a v B := not_own (fun e => by have := hk3.size; omega) (fun e => by have h' := hv B e; have := hk3.size; omega); clear hm ha hv hk hz hK3 hB3; obtain ⟨c0, c1, c2, c3, c4⟩ := hB4)
    | (go_at_call 18; (with_reducible refine (take_any 2 2 4 0 2 0 0 0 false 0 a v (M0 48) _ h4.m).mono ?_); rw [E1.out]; rintro e w5 ⟨rfl, hm, hk⟩; have h5 := h4.turn hm hk; unfold handV; dsimp only; have d0 := hk.cell c0 hB5; have d1 := hk.cell c1 hB5; have d2 := hk.cell c2 hB5; have d3 := hk.cell c3 hB5; have d4 := hk.cell c4 hB5; clear c0 c1 c2 c3 c4; have hl5 : B < w5.heap.size := Nat.lt_of_lt_of_le hBl4 hk.size; have h5b := h5.keep ((Keeps.refl NoS w5).alloc (.cells #[.int .i64 0, .int .i64 0, .int .i64 1, .bool false, .int .i64 0] 32)); have hH := handAt_new w5 32 0 0 1 false 0; have hn5 : ¬ own2m a v w5.heap.size := not_own (fun e => by have := blk_lt h5.m.hd; omega) (fun e => by have := h5.m.own_lt e; omega); clear hm hk)
    | (go_at_call 18; (with_reducible refine (take_any 2 2 4 0 2 0 0 1 false 0 a v M1 _ h5b.m).mono ?_); rw [E2.out]; rintro e w6 ⟨rfl, hm, hk⟩; have h6 := h5b.turn hm hk; unfold handV; dsimp only; obtain ⟨b0, b1, b2, b3, b4, _⟩ := (hH.keep hk hn5).cells; have hl6 : w5.heap.size < w6.heap.size := by { have := hk.size; simp at this; omega }; have h6b := h6.keep ((Keeps.refl NoS w6).alloc (.cells #[.int .i64 0, .int .i64 0, .int .i64 9, .bool false, .int .i64 0] 32)); clear hm hk)
    | (go_at_call 26; (with_reducible refine (steps_any a v M2 _ h6b.m).mono ?_); rw [e3]; rintro e w7 ⟨rfl, rfl⟩))
  go_ret
  exact ⟨rfl, h6b.kp⟩
end Go.Proofs.Ytodaiogefgdcpaa
