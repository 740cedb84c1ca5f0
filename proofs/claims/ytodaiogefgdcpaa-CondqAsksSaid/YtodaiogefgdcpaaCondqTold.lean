/- Layer 20's map, and the document's example. -/
import Derived.Test.YtodaiogefgdcpaaCondqDo
namespace Go.Proofs.Ytodaiogefgdcpaa
open Go.RowKit
theorem map20_any (w : World) : Calls Try.prog 39 #[] w fun e w' => e = .returned (.agg #[.int .i64 1, .int .i64 1, .int .i64 4, .int .i64 2, .int .i64 1]) ∧ Keeps NoS w w' := by
  go_enter Try.func39, Try.ntmps39
  go_wp2
  refine bodyPost_ret (v := .agg #[.int .i64 1, .int .i64 1, .int .i64 4, .int .i64 2, .int .i64 1]) (by simp [results, Try.results39, go_sem]) rfl ⟨rfl, ?_⟩
  exact (Keeps.refl NoS w).alloc _
theorem size20 : sizeP ⟨1, 1, 4, 2, 1⟩ = 43 := by kernel_rfl
theorem told20_plain : (nextA ⟨1, 1, 4, 2, 1⟩ (iterD ⟨1, 1, 4, 2, 1⟩ (M0 43, startR 2 1 0) 2).2).k = 0 ∧ (nextA ⟨1, 1, 4, 2, 1⟩ (iterD ⟨1, 1, 4, 2, 1⟩ (M0 43, startR 2 1 0) 0).2).k = 1 ∧ (nextA ⟨1, 1, 4, 2, 1⟩ (iterD ⟨1, 1, 4, 2, 1⟩ (M0 43, startR 2 1 0) 1).2).k = 1 ∧ (iterD ⟨1, 1, 4, 2, 1⟩ (M0 43, startR 2 1 0) 2).1.st = 2 := ⟨by kernel_rfl, by kernel_rfl, by kernel_rfl, by kernel_rfl⟩
theorem fld_row (a b c d e f : Int) (w : World) : (Instr.field 70 (.agg #[.int .i64 a, .int .i64 b, .int .i64 c, .int .i64 d, .int .i64 e, .int .i64 f]) 3).run Try.prog w = .ok (.int .i64 d) w := by kernel_rfl
theorem start900 : rowV (startR 9 0 0) = .agg #[.int .i64 9, .int .i64 0, .int .i64 0, .int .i64 9, .int .i64 0, .int .i64 0] := by kernel_rfl
set_option maxHeartbeats 4000000 in
set_option maxRecDepth 100000 in
theorem told20_any (w : World) : Calls Try.prog 40 #[] w fun e w' => e = .returned (.bool true) ∧ Keeps NoS w w' := by
  obtain ⟨i0, hi, hz0, hz1, hz2⟩ := info_parts infoI64
  have m1 : i0.bytes * 43 ≤ 281474976710656 := by rw [hz2]; omega
  have m2 : 43 ≤ maxLen := by unfold maxLen; omega
  obtain ⟨e1, e2, e3, e4⟩ := told20_plain
  have hnz : ∀ j, j < 2 → ¬ (nextA ⟨1, 1, 4, 2, 1⟩ (iterD ⟨1, 1, 4, 2, 1⟩ (M0 43, startR 2 1 0) j).2).k = 0 := by
    intro j hj
    match j, hj with
    | 0, _ => rw [e2]; decide
    | 1, _ => rw [e3]; decide
  have hdo := fun a v w hA => do_any 1 1 4 2 1 2 1 0 a v (M0 43) w hA (by decide) 2 (by decide) e1 hnz
  obtain ⟨M2, hM2⟩ : ∃ M2, (iterD ⟨1, 1, 4, 2, 1⟩ (M0 43, startR 2 1 0) 2).1 = M2 := ⟨_, rfl⟩
  rw [hM2] at hdo e4
  have HDO := Lib.hid hdo
  have hfl := fld_row 9 0 0 9 0 0
  clear hdo hnz e1 e2 e3 hM2
  go_enter Try.func40, Try.ntmps40
  go_wp2_with (go_at_call 39; refine (map20_any _).mono ?_; rintro e w1 ⟨rfl, hk1⟩)
  have hB := mapAt_new w1 1 1 4 2 1 25
  have hk1' := hk1.alloc (.cells #[.int .i64 1, .int .i64 1, .int .i64 4, .int .i64 2, .int .i64 1] 25)
  obtain ⟨B, hBe⟩ : ∃ B, w1.heap.size = B := ⟨_, rfl⟩
  rw [hBe] at hB
  rw [hBe]
  generalize w1.alloc (.cells #[.int .i64 1, .int .i64 1, .int .i64 4, .int .i64 2, .int .i64 1] 25) = W at *
  refine (size_lit 1 1 4 2 1 43 size20 _).mono ?_
  rintro e w2 ⟨rfl, hk2⟩
  have hB2 := hB.keep hk2 (fun f => f)
  have hK2 := hk1'.trans hk2
  clear hk1' hk2 hB hk1 hBe
  go_wp2_with (first
    | (refine wpList_make_full _ rfl _ _ 49 rfl 0 2 i0 (.int .i64 0) 1 Try.underlying49 hi hz0 hz1 .i64 .i64 _ _ 43 rfl rfl rfl rfl m1 m2 (Nat.zero_le _) ?_; intro w3 hown hgr; have hz := made_zeros w3 _ 43 hown; have hk3 : Keeps NoS w2 w3 := (Keeps.refl NoS w2).grown hgr (fun k hk => by cases hk); have hB3 := hB2.keep hk3 (fun f => f); have hK3 := hK2.trans hk3; clear hgr hown)
    | (go_at_call 28; refine (new_someN w2.heap.size 0 43 43 (List.replicate 43 0) w3 (by simp) (by decide) (by decide) hz).mono ?_; rintro e w4 ⟨a, v, rfl, hm, ha, hv, hk⟩; have h4 := fresh_in hK3 hm ha hv hk; have hB4 := hB3.keep hk (fun f => f); clear hm ha hv hk hz hK3 hB3; obtain ⟨c0, c1, c2, c3, c4⟩ := hB4)
    | (go_at_call 57; refine (HDO.out a v _ h4.m).mono ?_; rintro e w5 ⟨rfl, hm, hk⟩; have h5 := h4.turn hm hk)
    | (go_at_call 46; refine (startc_any 9 0 0 _).mono ?_; rw [start900]; rintro e w6 ⟨rfl, hk6⟩; have h6 := h5.keep hk6)
    | (go_at_call 26; refine (steps_any a v M2 _ h6.m).mono ?_; rw [e4]; rintro e w7 ⟨rfl, rfl⟩))
  go_ret
  exact ⟨rfl, h6.kp⟩
end Go.Proofs.Ytodaiogefgdcpaa
