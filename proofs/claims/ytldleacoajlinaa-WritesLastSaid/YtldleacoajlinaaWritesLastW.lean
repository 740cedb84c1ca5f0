/- The walk of WritesLast. -/
import Derived.Test.YtldleacoajlinaaWritesLaws
namespace Go.Proofs.Ytldleacoajlinaa
open Go.RowKit
theorem mod40 (z : Int) : ∃ r : Int, (IntKind.u64.wrap z).tmod 40 = r ∧ 0 ≤ r ∧ r < 40 := by
  have h : 0 ≤ IntKind.u64.wrap z := by rw [IntKind.wrap_u64]; omega
  exact ⟨_, rfl, Int.tmod_nonneg _ h, by rw [Int.tmod_eq_emod_of_nonneg h]; omega⟩
set_option maxHeartbeats 1000000 in
set_option maxRecDepth 100000 in
theorem writesLast_main (w : World) (v0 : Value) (ls : List (Int × Int)) (hin : InW w v0 ls) (a1 : Int) (h32 : ls.length ≤ 32) :
    Calls Try.prog 10 #[v0, .int .i64 a1] w fun e w' => e = .returned (.bool true) ∧ Keeps NoS w w' := by
  obtain ⟨p, cap, rfl, _, hcell⟩ := hin
  have Hc := Lib.hid hcell
  obtain ⟨z, hz, z0, z1⟩ := mod40 a1
  clear hcell
  go_enter Try.func10, Try.ntmps10
  go_wp2_with (go_at_call 46; refine (wnew_in 32 w w (Keeps.refl _ _)).mono ?_; rintro e w1 ⟨rfl, hs⟩)
  have hs : WrIn w w1 w.heap.size 32 0 [] := hs
  go_loopw [6, 7, 8] (fun want has i wr => ∃ (k : Nat) (L : List (Int × Int)), k ≤ ls.length ∧ i = .int .i64 k ∧ want = .int .i64 (getL L z) ∧ has = .bool (hasKey L z) ∧ L.length ≤ k ∧ WrIn w wr w.heap.size 32 0 L) (fun _ _ i _ => ls.length - (intOf i).toNat)
  case atStart => exact ⟨0, [], by omega, rfl, rfl, rfl, by simp, hs⟩
  case round =>
    obtain ⟨k, L, hk, rfl, rfl, rfl, hL, hs2⟩ := hrel
    clear hs
    by_cases hlt : k < ls.length
    · obtain ⟨b, off, rfl, hc⟩ := Hc.out (fun e => by rw [e] at hlt; exact absurd hlt (by simp))
      obtain ⟨e0, e1⟩ := hc k hlt
      have d0 := hs2.kept.cell e0 (fun f => f)
      have d1 := hs2.kept.cell e1 (fun f => f)
      generalize (ls.getD k (0, 0)).1 = x at *
      generalize (ls.getD k (0, 0)).2 = y at *
      obtain ⟨q, hq, q0, q1⟩ := mod40 x
      have hok : putOk 32 L q = true := by simp [putOk]; omega
      have Hok := Lib.hid hok
      clear hok hc
      go_wp2_with (go_at_call 47; refine (wput_in hs2 (by omega) q y).mono ?_; rw [Hok.out]; rintro e w2 ⟨rfl, hs3⟩; have f0 := hs3.kept.cell e0 (fun f => f); have f1 := hs3.kept.cell e1 (fun f => f))
      · have hb : (q == z) = true := by assumption
        go_roundw
        case rel => exact ⟨k + 1, putW 32 L q y, by omega, by go_num, by rw [getL_put _ _ _ _ _ Hok.out, if_pos (by simpa using hb)], by rw [hasKey_put _ _ _ _ _ Hok.out, decide_eq_true (by simpa using hb)]; rfl, by have := putW_len 32 L q y; omega, hs3⟩
        case measure => simp [intOf]; omega
      · have hb : (q == z) = false := by assumption
        go_roundw
        case rel => exact ⟨k + 1, putW 32 L q y, by omega, by go_num, by rw [getL_put _ _ _ _ _ Hok.out, if_neg (by simpa using hb)], by rw [hasKey_put _ _ _ _ _ Hok.out, decide_eq_false (by simpa using hb)]; rfl, by have := putW_len 32 L q y; omega, hs3⟩
        case measure => simp [intOf]; omega
    · obtain rfl : k = ls.length := by omega
      go_wp2_with (first
        | (go_at_call 48; refine (wget_into hs2 z).mono ?_; rw [show getW L z = getL L z by simp [getW, z0], show hasW L z = hasKey L z by simp [hasW, z0]]; rintro e w2 ⟨rfl, hs3⟩)
        | (go_at_call 45; refine (told14_any _).mono ?_; rintro e w3 ⟨rfl, hk3⟩))
      go_ret
      exact ⟨by simp, hs3.kept.trans hk3⟩
theorem writesLast_walk (w : World) (v0 : Value) (ls : List (Int × Int)) (hin : InW w v0 ls) (_f : ∀ k, k < ls.length → (Lit.int .i64 (ls.getD k (0, 0)).1).wf = true ∧ (Lit.int .i64 (ls.getD k (0, 0)).2).wf = true) (a1 : Int) (_w1 : (Lit.int .i64 a1).wf = true) :
    Calls Try.prog 10 #[v0, .int .i64 a1] w fun e w' => e = .returned (.bool true) ∧ Keeps NoS w w' := by
  by_cases h32 : ls.length ≤ 32
  · exact writesLast_main w v0 ls hin a1 h32
  · obtain ⟨p, cap, rfl, hmax, _⟩ := hin
    go_enter Try.func10, Try.ntmps10
    go_wp2_with (go_at_call 45; refine (told14_any _).mono ?_; rintro e w3 ⟨rfl, hk3⟩)
    go_ret
    exact ⟨rfl, hk3⟩
end Go.Proofs.Ytldleacoajlinaa
