/- Package mcs: numbers of nodes, whose they are, where they stand. -/
import Derived.Test.YtjchcmomppfilaaMcsPlain
namespace Go.Proofs.Ytjchcmomppfilaa
open Go.RowKit
def idP (m : MapS) (t l : Int) : Int := if nodeP m t l 0 < 0 then 0 else 1 + t * m.l + l
theorem node_bd {m : MapS} {t l p : Int} (h : ¬ nodeP m t l p < 0) : May m ∧ 0 ≤ t ∧ t < m.t ∧ 0 ≤ l ∧ l < m.l ∧ 0 ≤ p ∧ p < 2 := by
  unfold nodeP at h
  by_cases h1 : mayB m = true
  · by_cases h2 : inB t m.t = true
    · by_cases h3 : inB l m.l = true
      · by_cases h4 : inB p 2 = true
        · have a := inB_true h2; have b := inB_true h3; have c := inB_true h4
          exact ⟨may_of h1, a.1, a.2, b.1, b.2, c.1, c.2⟩
        · simp [h4] at h
      · simp [h3] at h
    · simp [h2] at h
  · simp [h1] at h
set_option maxHeartbeats 1000000 in
set_option maxRecDepth 100000 in
theorem id_any (ms ml mt mc md t l : Int) (w : World) : Calls Try.prog 14 #[.agg #[.int .i64 ms, .int .i64 ml, .int .i64 mt, .int .i64 mc, .int .i64 md], .int .i64 t, .int .i64 l] w fun e w' => e = .returned (.int .i64 (idP ⟨ms, ml, mt, mc, md⟩ t l)) ∧ Keeps NoS w w' := by
  have hB := mapAt_new w ms ml mt mc md 24
  obtain ⟨A, hA⟩ : ∃ A, nodeP ⟨ms, ml, mt, mc, md⟩ t l 0 = A := ⟨_, rfl⟩
  have HA := Lib.hid hA
  by_cases hn : A < 0
  · rw [show idP ⟨ms, ml, mt, mc, md⟩ t l = 0 by unfold idP; rw [hA, if_pos hn]]
    clear hA
    go_enter Try.func14, Try.ntmps14
    go_wp2_with (go_at_call 20; refine (node_lit ms ml mt mc md t l 0 A HA.out _).mono ?_; rintro e w1 ⟨rfl, hk1⟩)
    go_ret
    exact ⟨rfl, ((Keeps.refl NoS w).alloc _).trans hk1⟩
  · rw [show idP ⟨ms, ml, mt, mc, md⟩ t l = 1 + t * ml + l by unfold idP; rw [hA, if_neg hn]]
    obtain ⟨hM, t0, t1, l0, l1, _, _⟩ := node_bd (by rw [hA]; exact hn)
    obtain ⟨h1, h2, h3, h4, h5, h6, h7, h8, h9, h10⟩ := hM
    dsimp only at h1 h2 h3 h4 h5 h6 h7 h8 h9 h10 t1 l1
    have hx : 0 ≤ t * ml ∧ t * ml ≤ 16 := ⟨Int.mul_nonneg t0 h3, by have := Int.mul_le_mul (show t ≤ 4 by omega) h4 h3 (by decide); omega⟩
    obtain ⟨hx1, hx2⟩ := hx
    clear hA
    go_enter Try.func14, Try.ntmps14
    go_wp2_with (go_at_call 20; refine (node_lit ms ml mt mc md t l 0 A HA.out _).mono ?_; rintro e w1 ⟨rfl, hk1⟩; have c1 := hk1.cell hB.2.1 (fun f => f))
    go_ret
    exact ⟨rfl, ((Keeps.refl NoS w).alloc _).trans hk1⟩
theorem id8 {t l : Nat} (ht : t < 4) (hl : l < 2) : idP ⟨2, 2, 4, 0, 2⟩ t l = idA t l := by
  unfold idP idA
  have h := ndA_eq ht hl (p := 0) (by decide)
  have h' : nodeP ⟨2, 2, 4, 0, 2⟩ t l 0 = (ndA t l 0 : Nat) := h
  rw [h', if_neg (by omega)]
  dsimp only
  omega
set_option maxHeartbeats 1000000 in
set_option maxRecDepth 100000 in
theorem id8_any (t l : Nat) (ht : t < 4) (hl : l < 2) (w : World) : Calls Try.prog 14 #[.agg #[.int .i64 2, .int .i64 2, .int .i64 4, .int .i64 0, .int .i64 2], .int .i64 t, .int .i64 l] w fun e w' => e = .returned (.int .i64 (idA t l)) ∧ Keeps NoS w w' := by
  have h := id_any 2 2 4 0 2 t l w
  rw [id8 ht hl] at h
  exact h
/-- whose number it is; -1: nobody's -/
def thI (l : Nat) (x : Int) : Int := match thN l x with | some u => u | none => -1
theorem thN_none {l : Nat} {x : Int} (h : ∀ j, j < 4 → idA j l ≠ x) : thN l x = none := by
  unfold thN
  rw [if_neg (Ne.symm (h 0 (by decide))), if_neg (Ne.symm (h 1 (by decide))), if_neg (Ne.symm (h 2 (by decide))), if_neg (Ne.symm (h 3 (by decide)))]
set_option maxHeartbeats 1000000 in
set_option maxRecDepth 100000 in
theorem thread8_any (l : Nat) (x : Int) (hl : l < 2) (w : World) : Calls Try.prog 59 #[.agg #[.int .i64 2, .int .i64 2, .int .i64 4, .int .i64 0, .int .i64 2], .int .i64 x, .int .i64 l] w fun e w' => e = .returned (.int .i64 (thI l x)) ∧ Keeps NoS w w' := by
  have hB := mapAt_new w 2 2 4 0 2 24
  have hk0 := (Keeps.refl NoS w).alloc (.cells #[.int .i64 2, .int .i64 2, .int .i64 4, .int .i64 0, .int .i64 2] 24)
  obtain ⟨R, hR⟩ : ∃ R, thI l x = R := ⟨_, rfl⟩
  rw [hR]
  have HR := Lib.hid hR
  clear hR
  go_enter Try.func59, Try.ntmps59
  go_wp2_with fail
  obtain ⟨B, hBe⟩ : ∃ B, w.heap.size = B := ⟨_, rfl⟩
  rw [hBe] at hB
  (try rw [hBe])
  clear hBe
  generalize w.alloc (.cells #[.int .i64 2, .int .i64 2, .int .i64 4, .int .i64 0, .int .i64 2] 24) = wa at *
  have HB := Lib.hid hB
  clear hB
  go_loopw [7] (fun tv wq => ∃ k : Nat, k ≤ 4 ∧ tv = .int .i64 k ∧ Keeps NoS wa wq ∧ ∀ j, j < k → idA j l ≠ x) (fun tv _ => 4 - (intOf tv).toNat)
  case atStart => exact ⟨0, by omega, rfl, Keeps.refl _ _, fun j hj => absurd hj (by omega)⟩
  case round =>
    obtain ⟨k, hk, rfl, hkw, hno⟩ := hrel
    obtain ⟨c0, c1, c2, c3, c4⟩ := HB.out.keep hkw (fun f => f)
    have HNO := Lib.hid hno; have HKW := Lib.hid hkw
    clear hno hkw
    by_cases hk4 : k < 4
    · have k0 : (0 : Int) ≤ (k : Int) := by omega
      have k1 : (k : Int) < 4 := by omega
      have hpos : 1 ≤ idA k l := by unfold idA; omega
      have HID := Lib.hid (fun W => id8_any k l hk4 hl W)
      by_cases he : idA k l = x
      · have hx0 : (x != 0) = true := by
          have : x ≠ 0 := by omega
          simpa using this
        have hre : R = k := by rw [← HR.out]; unfold thI; rw [← he, thN_id hk4]
        have HRE := Lib.hid hre
        clear hre hpos
        subst he
        generalize idA k l = y at *
        go_wp2_with (go_at_call 14; refine (HID.out _).mono ?_; rintro e w1 ⟨rfl, hk1⟩)
        go_ret
        exact ⟨by rw [HRE.out]; rfl, hk0.trans (HKW.out.trans hk1)⟩
      · have hq : (idA k l == x) = false := by simpa using he
        have HE := Lib.hid he
        clear he hpos
        generalize hy : idA k l = y at *
        have HY := Lib.hid hy
        clear hy
        by_cases hx : x = 0
        · have hx0 : (x != 0) = false := by simp [hx]
          have HX := Lib.hid hx
          clear hx
          go_wp2_with (go_at_call 14; refine (HID.out _).mono ?_; rintro e w1 ⟨rfl, hk1⟩)
          go_roundw
          case rel => exact ⟨k + 1, by omega, by go_num, HKW.out, fun j hj => by
            by_cases e : j = k
            · rw [e, HY.out]; exact HE.out
            · exact HNO.out j (by omega)⟩
          case measure => simp [intOf]; omega
        · have hx0 : (x != 0) = true := by simpa using hx
          have HX := Lib.hid hx
          clear hx
          go_wp2_with (go_at_call 14; refine (HID.out _).mono ?_; rintro e w1 ⟨rfl, hk1⟩)
          go_roundw
          case rel => exact ⟨k + 1, by omega, by go_num, HKW.out.trans hk1, fun j hj => by
            by_cases e : j = k
            · rw [e, HY.out]; exact HE.out
            · exact HNO.out j (by omega)⟩
          case measure => simp [intOf]; omega
    · obtain rfl : k = 4 := by omega
      have hre : R = -1 := by rw [← HR.out]; unfold thI; rw [thN_none HNO.out]
      have HRE := Lib.hid hre
      clear hre
      go_wp2_with fail
      go_ret
      exact ⟨by rw [HRE.out]; rfl, hk0.trans HKW.out⟩
end Go.Proofs.Ytjchcmomppfilaa
