/- Stamps that are one's own rise, each is another one, and the last one is the clock (the walk). -/
import Derived.Test.YtodaiogefgdcpaaBumpsW
namespace Go.Proofs.Ytodaiogefgdcpaa
open Go.RowKit
set_option maxHeartbeats 40000000 in
set_option maxRecDepth 100000 in
theorem clockOwn_walk (w : World) (p0 : Value) (L : List Int) (f0 : InI w p0 L) (_f1 : ∀ k, k < L.length → (Lit.int .i64 (L.getD k 0)).wf = true) (a1 : Bool) : Calls Try.prog 6 #[p0, .bool a1] w fun e w' => e = .returned (.bool true) ∧ Keeps NoS w w' := by
  have HF0 := Lib.hid f0
  obtain ⟨p, cap, rfl, hn, hc, _⟩ := f0
  clear hc _f1
  by_cases h100 : L.length ≤ 100
  case neg =>
    have h100' : (100 : Int) < (L.length : Int) := by omega
    go_enter Try.func6, Try.ntmps6
    go_wp2_with (go_at_call 34; refine (told11_any _).mono ?_; rintro e w1 ⟨rfl, hk1⟩)
    go_ret
    exact ⟨rfl, hk1⟩
  cases a1
  · have hcl := bumps_any 1 1 1 (by kernel_rfl) (by omega) rfl (.slice p L.length cap) L w HF0.out h100
    have HCL := Lib.hid hcl
    clear hcl
    go_enter Try.func6, Try.ntmps6
    go_wp2_with fail
    refine HCL.out.mono ?_
    rintro e w1 ⟨⟨M, b, fr, O, Gl⟩, o, g, rfl, hci, ho, hg, hol, hk1⟩
    dsimp only at hci ho hg hol
    obtain ⟨hown, hword⟩ := hci.own (by decide)
    dsimp only at hown hword ⊢
    have hlt := hci.lt
    have hgl : Gl.length = O.length := hci.ln
    dsimp only at hlt
    obtain ⟨po, co, rfl⟩ := ho.slice
    obtain ⟨pg, cg, rfl⟩ := hg.slice
    rw [hgl]
    rw [hword]
    have HO := Lib.hid ho; have HG := Lib.hid hg; have HK := Lib.hid hk1; have HOWN := Lib.hid hown; have HLT := Lib.hid hlt; have HGL := Lib.hid hgl
    have hol1 : (O.length : Int) ≤ 100 := by omega
    have hby : byK 1 = 1 := rfl
    rw [hby] at HOWN ⊢
    obtain ⟨xl, hxl⟩ : ∃ xl, 1 * (O.length : Int) = xl := ⟨_, rfl⟩
    rw [hxl]
    have HXL := Lib.hid hxl
    clear hxl
    clear hci ho hg hk1 hown hword hlt hgl hby
    go_wp2_with fail
    go_loopw [11, 12] (fun xv iv wq => ∃ (j : Nat), j ≤ O.length ∧ iv = .int .i64 j ∧ xv = .int .i64 (1 * (j : Int)) ∧ Keeps NoS w1 wq) (fun _ iv _ => O.length - (intOf iv).toNat)
    case atStart => exact ⟨0, by omega, rfl, rfl, Keeps.refl _ _⟩
    case round =>
      obtain ⟨j, hj, rfl, rfl, hkq⟩ := hrel
      by_cases hjl : j < O.length
      · obtain ⟨go, co', hfo, _, _, _, _, hoc⟩ := HO.out.form (by omega)
        obtain ⟨gg, cg', hfg, _, _, _, _, hgc⟩ := HG.out.form (by rw [HGL.out]; omega)
        simp only [Value.slice.injEq] at hfo hfg
        obtain ⟨rfl, ho1, rfl⟩ := hfo
        obtain ⟨rfl, ho2, rfl⟩ := hfg
        clear ho1 ho2
        have c1 := hkq.cell (hoc j hjl) (fun f => f)
        have c2 := hkq.cell (hgc j (by rw [HGL.out]; exact hjl)) (fun f => f)
        have hl3 := HLT.out j hjl
        rw [HOWN.out j hjl] at c1 hl3
        obtain ⟨hl0, hl1, _⟩ := hl3
        obtain ⟨gj, hgj⟩ : ∃ gj, Gl.getD j 0 = gj := ⟨_, rfl⟩
        rw [hgj] at c2 hl0 hl1
        clear hgj hoc hgc
        have e1 : 1 * ((j : Int) + 1) = 1 * (j : Int) + 1 := by omega
        rw [e1] at c1 hl1
        clear e1
        have hj100 : (j : Int) ≤ 100 := by omega
        have hj0 : (0 : Int) ≤ (j : Int) := by omega
        have hjl2 : (j : Int) < (O.length : Int) := by omega
        obtain ⟨xj, hxj⟩ : ∃ xj, 1 * (j : Int) = xj := ⟨_, rfl⟩
        have hx0 : 0 ≤ xj := by omega
        have hx1 : xj ≤ 1000 := by omega
        rw [hxj] at c1 hl1 ⊢
        have hd1 : decide (xj + 1 ≤ gj) = false := decide_eq_false (by omega)
        have hd2 : IntKind.i64.wrap (xj + 1) = xj + 1 := IntWalk.i64_in _ (by omega)
        have HXJ := Lib.hid hxj; have HKQ := Lib.hid hkq
        clear hxj hkq
        go_wp2_with fail
        go_quiet (fail)
        go_wp2_with fail
        go_roundw
        case rel => exact ⟨j + 1, by omega, by go_num, by rw [← HXJ.out]; congr 1; (try omega), HKQ.out.trans (Keeps.drewNs _ _)⟩
        case measure => simp [intOf]; omega
      · obtain rfl : j = O.length := by omega
        rw [HXL.out]
        have HKQ := Lib.hid hkq
        clear hkq
        go_wp2_with (go_at_call 34; refine (told11_any _).mono ?_; rintro e w8 ⟨rfl, hk8⟩)
        go_ret
        exact ⟨rfl, HK.out.trans (HKQ.out.trans hk8)⟩
  · have hcl := bumps_any 2 1 3 (by kernel_rfl) (by omega) rfl (.slice p L.length cap) L w HF0.out h100
    have HCL := Lib.hid hcl
    clear hcl
    go_enter Try.func6, Try.ntmps6
    go_wp2_with fail
    refine HCL.out.mono ?_
    rintro e w1 ⟨⟨M, b, fr, O, Gl⟩, o, g, rfl, hci, ho, hg, hol, hk1⟩
    dsimp only at hci ho hg hol
    obtain ⟨hown, hword⟩ := hci.own (by decide)
    dsimp only at hown hword ⊢
    have hlt := hci.lt
    have hgl : Gl.length = O.length := hci.ln
    dsimp only at hlt
    obtain ⟨po, co, rfl⟩ := ho.slice
    obtain ⟨pg, cg, rfl⟩ := hg.slice
    rw [hgl]
    rw [hword]
    have HO := Lib.hid ho; have HG := Lib.hid hg; have HK := Lib.hid hk1; have HOWN := Lib.hid hown; have HLT := Lib.hid hlt; have HGL := Lib.hid hgl
    have hol1 : (O.length : Int) ≤ 100 := by omega
    have hby : byK 3 = 2 := rfl
    rw [hby] at HOWN ⊢
    obtain ⟨xl, hxl⟩ : ∃ xl, 2 * (O.length : Int) = xl := ⟨_, rfl⟩
    rw [hxl]
    have HXL := Lib.hid hxl
    clear hxl
    clear hci ho hg hk1 hown hword hlt hgl hby
    go_wp2_with fail
    go_loopw [11, 12] (fun xv iv wq => ∃ (j : Nat), j ≤ O.length ∧ iv = .int .i64 j ∧ xv = .int .i64 (2 * (j : Int)) ∧ Keeps NoS w1 wq) (fun _ iv _ => O.length - (intOf iv).toNat)
    case atStart => exact ⟨0, by omega, rfl, rfl, Keeps.refl _ _⟩
    case round =>
      obtain ⟨j, hj, rfl, rfl, hkq⟩ := hrel
      by_cases hjl : j < O.length
      · obtain ⟨go, co', hfo, _, _, _, _, hoc⟩ := HO.out.form (by omega)
        obtain ⟨gg, cg', hfg, _, _, _, _, hgc⟩ := HG.out.form (by rw [HGL.out]; omega)
        simp only [Value.slice.injEq] at hfo hfg
        obtain ⟨rfl, ho1, rfl⟩ := hfo
        obtain ⟨rfl, ho2, rfl⟩ := hfg
        clear ho1 ho2
        have c1 := hkq.cell (hoc j hjl) (fun f => f)
        have c2 := hkq.cell (hgc j (by rw [HGL.out]; exact hjl)) (fun f => f)
        have hl3 := HLT.out j hjl
        rw [HOWN.out j hjl] at c1 hl3
        obtain ⟨hl0, hl1, _⟩ := hl3
        obtain ⟨gj, hgj⟩ : ∃ gj, Gl.getD j 0 = gj := ⟨_, rfl⟩
        rw [hgj] at c2 hl0 hl1
        clear hgj hoc hgc
        have e1 : 2 * ((j : Int) + 1) = 2 * (j : Int) + 2 := by omega
        rw [e1] at c1 hl1
        clear e1
        have hj100 : (j : Int) ≤ 100 := by omega
        have hj0 : (0 : Int) ≤ (j : Int) := by omega
        have hjl2 : (j : Int) < (O.length : Int) := by omega
        obtain ⟨xj, hxj⟩ : ∃ xj, 2 * (j : Int) = xj := ⟨_, rfl⟩
        have hx0 : 0 ≤ xj := by omega
        have hx1 : xj ≤ 1000 := by omega
        rw [hxj] at c1 hl1 ⊢
        have hd1 : decide (xj + 2 ≤ gj) = false := decide_eq_false (by omega)
        have hd2 : IntKind.i64.wrap (xj + 2) = xj + 2 := IntWalk.i64_in _ (by omega)
        have HXJ := Lib.hid hxj; have HKQ := Lib.hid hkq
        clear hxj hkq
        go_wp2_with fail
        go_quiet (fail)
        go_wp2_with fail
        go_roundw
        case rel => exact ⟨j + 1, by omega, by go_num, by rw [← HXJ.out]; congr 1; (try omega), HKQ.out.trans (Keeps.drewNs _ _)⟩
        case measure => simp [intOf]; omega
      · obtain rfl : j = O.length := by omega
        rw [HXL.out]
        have HKQ := Lib.hid hkq
        clear hkq
        go_wp2_with (go_at_call 34; refine (told11_any _).mono ?_; rintro e w8 ⟨rfl, hk8⟩)
        go_ret
        exact ⟨rfl, HK.out.trans (HKQ.out.trans hk8)⟩
end Go.Proofs.Ytodaiogefgdcpaa
