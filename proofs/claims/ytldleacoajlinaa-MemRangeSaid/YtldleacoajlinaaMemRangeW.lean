/- The walk of MemRange. -/
import Derived.Test.YtldleacoajlinaaMemSame
namespace Go.Proofs.Ytldleacoajlinaa
open Go.RowKit
theorem Keeps.inI {w w' : World} {v : Value} {zs : List Int} (k : Keeps NoS w w') (h : InI w v zs) : InI w' v zs := by
  obtain ⟨p, cap, hv, hm, hc, hn⟩ := h
  refine ⟨p, cap, hv, hm, fun hne => ?_, hn⟩
  obtain ⟨b, off, hb, hcell⟩ := hc hne
  exact ⟨b, off, hb, fun j hj => k.cell (hcell j hj) (fun f => f)⟩
set_option maxHeartbeats 400000 in
set_option maxRecDepth 100000 in
theorem memRange_yes (w : World) (v0 : Value) (zs : List Int) (hin : InI w v0 zs) (k : Nat) (x y : Int) (h40 : zs.length ≤ 40) (hk : k < zs.length) :
    Calls Try.prog 18 #[v0, .int .i64 k, .int .i64 x, .int .i64 y] w fun e w' => e = .returned (.bool true) ∧ Keeps NoS w w' := by
  obtain ⟨b, off, cap, rfl, hc⟩ := hin.at (by omega)
  have hc := hc k hk
  have HI := Lib.hid hin
  clear hin
  go_enter Try.func18, Try.ntmps18
  go_wp2_with fail
  refine (new_in w _ zs w HI.out (Keeps.refl _ _) (by omega)).mono ?_
  rintro e w1 ⟨a, v, rfl, hm, ha, hv, hkp⟩
  have h1 := fresh_in (Keeps.refl NoS w) hm ha hv hkp
  clear hm ha hv hkp
  go_wp2_with fail
  refine (load_ok a v _ k w1 h1.m hk).mono ?_
  rintro e w2 ⟨rfl, hm, hkp⟩
  have h2 := h1.turn1 hm hkp
  have hl : ((MemS.new zs).load k).last = ⟨1, k, zs.getD k 0, zs.getD k 0, true⟩ := rfl
  have hw : (MemS.new zs).word k = zs.getD k 0 := rfl
  rw [hw]
  clear hm hkp h1
  generalize zs.getD k 0 = z at *
  have HL := Lib.hid hl
  clear hl hw
  have d2 := h2.kp.cell hc (fun f => f)
  go_wp2_with (first
    | (go_at_call 37; refine (told2_any _).mono ?_; rintro e w3 ⟨rfl, hk3⟩; have h3 := h2.keep hk3; have d3 := h3.kp.cell hc (fun f => f))
    | (go_at_call 67; refine (last_any a v _ _ h3.m).mono ?_; rw [HL.out]; rintro e w4 ⟨rfl, hk4⟩))
  go_ret
  exact ⟨by simp, h3.kp.trans hk4⟩
set_option maxHeartbeats 400000 in
set_option maxRecDepth 100000 in
theorem memRange_no (w : World) (v0 : Value) (zs : List Int) (hin : InI w v0 zs) (i x y : Int) (h40 : zs.length ≤ 40) (hi : i < 0 ∨ (zs.length : Int) ≤ i) :
    Calls Try.prog 18 #[v0, .int .i64 i, .int .i64 x, .int .i64 y] w fun e w' => e = .returned (.bool true) ∧ Keeps NoS w w' := by
  have hout : (MemS.new zs).out i := hi
  have HI := Lib.hid hin
  obtain ⟨p, cap, rfl, _, _, _⟩ := hin
  go_enter Try.func18, Try.ntmps18
  go_wp2_with fail
  refine (new_in w _ zs w HI.out (Keeps.refl _ _) (by omega)).mono ?_
  rintro e w1 ⟨a, v, rfl, hm, ha, hv, hkp⟩
  have h1 := fresh_in (Keeps.refl NoS w) hm ha hv hkp
  have hl : (MemS.new zs).last = ⟨0, 0, 0, 0, false⟩ := rfl
  have hs : (MemS.new zs).st = 0 := rfl
  have HL := Lib.hid hl; have HS := Lib.hid hs; have HO := Lib.hid hout
  have HH := Lib.hid hi
  clear hm ha hv hkp hl hs hout hi
  rcases HH.out with h0 | h0
  all_goals
    go_wp2_with fail
    refine (load_out a v _ i w1 h1.m HO.out).mono ?_
    rintro e w2 ⟨rfl, hk2⟩
    have h2 := h1.keep hk2
    go_wp2_with fail
    refine (store_out a v _ i x w2 h2.m HO.out).mono ?_
    rintro e w3 ⟨rfl, hk3⟩
    have h3 := h2.keep hk3
    go_wp2_with fail
    refine (swap_out a v _ i x y w3 h3.m HO.out).mono ?_
    rintro e w4 ⟨rfl, hk4⟩
    have h4 := h3.keep hk4
    go_wp2_with fail
    refine (add_out a v _ i x w4 h4.m HO.out).mono ?_
    rintro e w5 ⟨rfl, hk5⟩
    have h5 := h4.keep hk5
    go_wp2_with (first
      | (go_at_call 37; refine (told2_any _).mono ?_; rintro e w6 ⟨rfl, hk6⟩; have h6 := h5.keep hk6)
      | (go_at_call 53; refine (steps_any a v _ _ h6.m).mono ?_; rw [HS.out]; rintro e w7 ⟨rfl, rfl⟩)
      | (go_at_call 67; refine (last_any a v _ _ h6.m).mono ?_; rw [HL.out]; rintro e w8 ⟨rfl, hk8⟩; have h8 := h6.keep hk8)
      | (go_at_call 40; refine (peek_none a v _ i _ h8.m HO.out).mono ?_; rintro e w9 ⟨rfl, rfl⟩)
      | (go_at_call 56; refine (rnew_in w _ zs _ HI.out h8.kp (by omega)).mono ?_; rintro e w10 ⟨c, u, rfl, hr, hc, hu, hkr⟩; have hT := TwoT.make h8 hr hc hu hkr)
      | (go_at_call 55; refine (same_any a c v u _ _ _ hT.s.m hT.r.m rfl).mono ?_; rintro e w11 ⟨rfl, hk11⟩))
    go_ret
    exact ⟨by simp, hT.s.kp.trans hk11⟩
theorem memRange_walk (w : World) (v0 : Value) (zs : List Int) (hin : InI w v0 zs) (_f0 : ∀ k, k < zs.length → (Lit.int .i64 (zs.getD k 0)).wf = true) (a1 : Int) (_w1 : (Lit.int .i64 a1).wf = true) (a2 : Int) (_w2 : (Lit.int .i64 a2).wf = true) (a3 : Int) (_w3 : (Lit.int .i64 a3).wf = true) :
    Calls Try.prog 18 #[v0, .int .i64 a1, .int .i64 a2, .int .i64 a3] w fun e w' => e = .returned (.bool true) ∧ Keeps NoS w w' := by
  by_cases h40 : zs.length ≤ 40
  · by_cases h : a1 < 0 ∨ (zs.length : Int) ≤ a1
    · exact memRange_no w v0 zs hin a1 a2 a3 h40 h
    · obtain ⟨n, rfl⟩ := Int.eq_ofNat_of_zero_le (show 0 ≤ a1 by omega)
      exact memRange_yes w v0 zs hin n a2 a3 h40 (by omega)
  · obtain ⟨p, cap, rfl, hmax, _, _⟩ := hin
    go_enter Try.func18, Try.ntmps18
    go_wp2_with (go_at_call 37; refine (told2_any _).mono ?_; rintro e w3 ⟨rfl, hk3⟩)
    go_ret
    exact ⟨rfl, hk3⟩
end Go.Proofs.Ytldleacoajlinaa
