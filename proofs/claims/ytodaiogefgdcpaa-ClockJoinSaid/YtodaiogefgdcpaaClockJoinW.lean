/- A stamp that may be joined is above what the clock was at its beginning, and the clock is no less then (the walk). -/
import Derived.Test.YtodaiogefgdcpaaBumpsW
namespace Go.Proofs.Ytodaiogefgdcpaa
open Go.RowKit
set_option maxHeartbeats 40000000 in
set_option maxRecDepth 100000 in
theorem clockJoin_walk (w : World) (p0 : Value) (L : List Int) (f0 : InI w p0 L) (_f1 : ∀ k, k < L.length → (Lit.int .i64 (L.getD k 0)).wf = true) : Calls Try.prog 7 #[p0] w fun e w' => e = .returned (.bool true) ∧ Keeps NoS w w' := by
  have HF0 := Lib.hid f0
  obtain ⟨p, cap, rfl, hn, hc, _⟩ := f0
  clear hc _f1
  by_cases h100 : L.length ≤ 100
  case neg =>
    have h100' : (100 : Int) < (L.length : Int) := by omega
    go_enter Try.func7, Try.ntmps7
    go_wp2_with (go_at_call 34; refine (told11_any _).mono ?_; rintro e w1 ⟨rfl, hk1⟩)
    go_ret
    exact ⟨rfl, hk1⟩
  have hcl := bumps_any 1 2 2 (by kernel_rfl) (by omega) rfl (.slice p L.length cap) L w HF0.out h100
  have HCL := Lib.hid hcl
  clear hcl
  go_enter Try.func7, Try.ntmps7
  go_wp2_with fail
  refine HCL.out.mono ?_
  rintro e w1 ⟨⟨M, b, fr, O, Gl⟩, o, g, rfl, hci, ho, hg, hol, hk1⟩
  dsimp only at hci ho hg hol
  have hword := hci.whi
  have hlt := hci.lt
  have hgl : Gl.length = O.length := hci.ln
  dsimp only at hlt hword ⊢
  generalize M.word (atK 2) = last at *
  have hby : byK 2 = 1 := rfl
  rw [hby, Int.one_mul] at hword
  obtain ⟨po, co, rfl⟩ := ho.slice
  obtain ⟨pg, cg, rfl⟩ := hg.slice
  rw [hgl]
  have HO := Lib.hid ho; have HG := Lib.hid hg; have HK := Lib.hid hk1; have HLT := Lib.hid hlt; have HGL := Lib.hid hgl
  have hol1 : (O.length : Int) ≤ 100 := by omega
  clear hci ho hg hk1 hlt hgl hby
  go_wp2_with fail
  go_loopw [7, 8] (fun xv iv wq => ∃ (j : Nat) (top : Int), j ≤ O.length ∧ iv = .int .i64 j ∧ xv = .int .i64 top ∧ 0 ≤ top ∧ (0 < j → 0 < top) ∧ Keeps NoS w1 wq) (fun _ iv _ => O.length - (intOf iv).toNat)
  case atStart => exact ⟨0, 0, by omega, rfl, rfl, by omega, fun h => absurd h (by omega), Keeps.refl _ _⟩
  case round =>
    obtain ⟨j, top, hj, rfl, rfl, htop, hpos, hkq⟩ := hrel
    have HPOS := Lib.hid hpos
    clear hpos
    by_cases hjl : j < O.length
    · obtain ⟨go, co', hfo, _, _, _, _, hoc⟩ := HO.out.form (by omega)
      obtain ⟨gg, cg', hfg, _, _, _, _, hgc⟩ := HG.out.form (by rw [HGL.out]; omega)
      simp only [Value.slice.injEq] at hfo hfg
      obtain ⟨rfl, ho1, rfl⟩ := hfo
      obtain ⟨rfl, ho2, rfl⟩ := hfg
      clear ho1 ho2
      have c1 := hkq.cell (hoc j hjl) (fun f => f)
      have c2 := hkq.cell (hgc j (by rw [HGL.out]; exact hjl)) (fun f => f)
      obtain ⟨hl0, hl1, hl2⟩ := HLT.out j hjl
      obtain ⟨gj, hgj⟩ : ∃ gj, Gl.getD j 0 = gj := ⟨_, rfl⟩
      obtain ⟨oj, hoj⟩ : ∃ oj, O.getD j 0 = oj := ⟨_, rfl⟩
      rw [hgj] at c2 hl0 hl1
      rw [hoj] at c1 hl1 hl2
      clear hgj hoj hoc hgc
      have hj0 : (0 : Int) ≤ (j : Int) := by omega
      have hjl2 : (j : Int) < (O.length : Int) := by omega
      have hd1 : decide (oj ≤ gj) = false := decide_eq_false (by omega)
      have hd2 : decide (last < oj) = false := decide_eq_false (by omega)
      have HKQ := Lib.hid hkq
      clear hkq
      go_wp2_with fail
      go_quiet (fail)
      go_wp2_with fail
      go_roundw
      case rel => exact ⟨j + 1, _, by omega, by go_num, rfl, by omega, fun _ => by omega, HKQ.out.trans (Keeps.drewNs _ _)⟩
      case measure => simp [intOf]; omega
    · obtain rfl : j = O.length := by omega
      have HKQ := Lib.hid hkq
      have hll : decide (last ≤ (L.length : Int)) = true := decide_eq_true hword
      clear hkq hword
      by_cases h0 : O.length = 0
      · have h0' : ((O.length : Int) == 0) = true := by rw [h0]; rfl
        have H0 := Lib.hid h0
        clear h0
        go_wp2_with (go_at_call 34; refine (told11_any _).mono ?_; rintro e w8 ⟨rfl, hk8⟩)
        go_ret
        exact ⟨rfl, HK.out.trans (HKQ.out.trans hk8)⟩
      · have h0' : ((O.length : Int) == 0) = false := by simpa using h0
        have hp : decide (0 < top) = true := decide_eq_true (HPOS.out (by omega))
        go_wp2_with (go_at_call 34; refine (told11_any _).mono ?_; rintro e w8 ⟨rfl, hk8⟩)
        go_ret
        exact ⟨rfl, HK.out.trans (HKQ.out.trans hk8)⟩
end Go.Proofs.Ytodaiogefgdcpaa
