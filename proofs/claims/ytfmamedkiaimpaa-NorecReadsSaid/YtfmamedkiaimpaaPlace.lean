/- The functions of package place, each with what it computes. -/
import Derived.Test.YtfmamedkiaimpaaRows
import Derived.Test.YtfmamedkiaimpaaBase
import Derived.Test.YtfmamedkiaimpaaMapIdx
import Derived.WalkKit
import Derived.WalkSpells
import Derived.Outline
namespace Go.Proofs.Ytfmamedkiaimpaa
open Go.RowKit

def mapV (m : MapS) : Value := .agg #[.int .i64 m.s, .int .i64 m.l, .int .i64 m.t, .int .i64 m.c, .int .i64 m.d]
theorem in_any (i n : Int) (w : World) : Calls Try.prog 41 #[.int .i64 i, .int .i64 n] w fun e w' => e = .returned (.bool (inB i n)) ∧ w = w' := by
  go_enter Try.func41, Try.ntmps41
  go_wp2
  all_goals
    go_ret
    exact ⟨by first | (simp [inB, *]; done) | (simp [inB, *]; omega), rfl⟩
theorem may_any (m : MapS) (w : World) : Calls Try.prog 40 #[mapV m] w fun e w' => e = .returned (.bool (mayB m)) ∧ Keeps NoS w w' := by
  obtain ⟨s, l, t, c, d⟩ := m
  unfold mapV
  dsimp only
  go_enter Try.func40, Try.ntmps40
  go_wp2_with (go_at_call 41; refine (in_any _ _ _).mono ?_; rintro e w1 ⟨rfl, rfl⟩)
  all_goals
    go_ret
    exact ⟨by first | (simp [mayB, *]; done) | (simp [mayB, *]; intros; exfalso; omega), (Keeps.refl _ _).alloc _⟩
set_option maxRecDepth 100000 in
theorem starts_any (m : MapS) (w : World) (hm : May m) : Calls Try.prog 42 #[mapV m] w fun e w' => e = .returned (.agg #[.int .i64 2, .int .i64 (p1 m), .int .i64 (p2 m), .int .i64 (p3 m), .int .i64 (p4 m), .int .i64 (p5 m), .int .i64 (p6 m), .int .i64 (p7 m)]) ∧ Keeps NoS w w' := by
  have hq := ttl_bd hm
  obtain ⟨h1, h2, h3, h4, h5, h6, h7, h8, h9, h10⟩ := hm
  obtain ⟨s, l, t, c, d⟩ := m
  unfold mapV p7 p6 p5 p4 p3 p2 p1
  dsimp only at *
  obtain ⟨hq1, hq2⟩ := hq
  go_enter Try.func42, Try.ntmps42
  go_wp2
  refine bodyPost_ret (v := .agg #[.int .i64 2, .int .i64 (2 + s), .int .i64 (2 + s + 6 * l), .int .i64 (2 + s + 6 * l + 2 * t), .int .i64 (2 + s + 6 * l + 2 * t + 2 * t * l), .int .i64 (2 + s + 6 * l + 2 * t + 2 * t * l + t), .int .i64 (2 + s + 6 * l + 2 * t + 2 * t * l + t + 6 * c), .int .i64 (2 + s + 6 * l + 2 * t + 2 * t * l + t + 6 * c + 2 * d)]) (by simp [results, Try.results42, go_sem]) rfl ⟨rfl, ?_⟩
  exact (((Keeps.refl _ _).alloc _).alloc _).alloc _
/-- a map that was boxed -/
theorem box_cells {w w1 : World} {s l t c d : Int} {T : TypeId} (h : Keeps NoS (w.alloc (.cells #[.int .i64 s, .int .i64 l, .int .i64 t, .int .i64 c, .int .i64 d] T)) w1) :
    w1.cell? ⟨w.heap.size, 0, none⟩ = some (.int .i64 s) ∧ w1.cell? ⟨w.heap.size, 1, none⟩ = some (.int .i64 l) ∧ w1.cell? ⟨w.heap.size, 2, none⟩ = some (.int .i64 t) ∧ w1.cell? ⟨w.heap.size, 3, none⟩ = some (.int .i64 c) ∧ w1.cell? ⟨w.heap.size, 4, none⟩ = some (.int .i64 d) ∧ w.heap.size < w1.heap.size := by
  have hb := h.blk (heap_alloc_new w _) (fun f => f)
  refine ⟨?_, ?_, ?_, ?_, ?_, blk_lt hb⟩ <;> rw [blk_cell hb] <;> rfl
theorem ix8_0 (a0 a1 a2 a3 a4 a5 a6 a7 : Int) (w : World) : (Instr.index 76 (.agg #[.int .i64 a0, .int .i64 a1, .int .i64 a2, .int .i64 a3, .int .i64 a4, .int .i64 a5, .int .i64 a6, .int .i64 a7]) (.int .i64 0)).run Try.prog w = .ok (.int .i64 a0) w := by kernel_rfl
theorem ix8_1 (a0 a1 a2 a3 a4 a5 a6 a7 : Int) (w : World) : (Instr.index 76 (.agg #[.int .i64 a0, .int .i64 a1, .int .i64 a2, .int .i64 a3, .int .i64 a4, .int .i64 a5, .int .i64 a6, .int .i64 a7]) (.int .i64 1)).run Try.prog w = .ok (.int .i64 a1) w := by kernel_rfl
theorem ix8_2 (a0 a1 a2 a3 a4 a5 a6 a7 : Int) (w : World) : (Instr.index 76 (.agg #[.int .i64 a0, .int .i64 a1, .int .i64 a2, .int .i64 a3, .int .i64 a4, .int .i64 a5, .int .i64 a6, .int .i64 a7]) (.int .i64 2)).run Try.prog w = .ok (.int .i64 a2) w := by kernel_rfl
theorem ix8_3 (a0 a1 a2 a3 a4 a5 a6 a7 : Int) (w : World) : (Instr.index 76 (.agg #[.int .i64 a0, .int .i64 a1, .int .i64 a2, .int .i64 a3, .int .i64 a4, .int .i64 a5, .int .i64 a6, .int .i64 a7]) (.int .i64 3)).run Try.prog w = .ok (.int .i64 a3) w := by kernel_rfl
theorem ix8_4 (a0 a1 a2 a3 a4 a5 a6 a7 : Int) (w : World) : (Instr.index 76 (.agg #[.int .i64 a0, .int .i64 a1, .int .i64 a2, .int .i64 a3, .int .i64 a4, .int .i64 a5, .int .i64 a6, .int .i64 a7]) (.int .i64 4)).run Try.prog w = .ok (.int .i64 a4) w := by kernel_rfl
theorem ix8_5 (a0 a1 a2 a3 a4 a5 a6 a7 : Int) (w : World) : (Instr.index 76 (.agg #[.int .i64 a0, .int .i64 a1, .int .i64 a2, .int .i64 a3, .int .i64 a4, .int .i64 a5, .int .i64 a6, .int .i64 a7]) (.int .i64 5)).run Try.prog w = .ok (.int .i64 a5) w := by kernel_rfl
theorem ix8_6 (a0 a1 a2 a3 a4 a5 a6 a7 : Int) (w : World) : (Instr.index 76 (.agg #[.int .i64 a0, .int .i64 a1, .int .i64 a2, .int .i64 a3, .int .i64 a4, .int .i64 a5, .int .i64 a6, .int .i64 a7]) (.int .i64 6)).run Try.prog w = .ok (.int .i64 a6) w := by kernel_rfl
theorem ix8_7 (a0 a1 a2 a3 a4 a5 a6 a7 : Int) (w : World) : (Instr.index 76 (.agg #[.int .i64 a0, .int .i64 a1, .int .i64 a2, .int .i64 a3, .int .i64 a4, .int .i64 a5, .int .i64 a6, .int .i64 a7]) (.int .i64 7)).run Try.prog w = .ok (.int .i64 a7) w := by kernel_rfl

set_option maxRecDepth 100000 in
theorem size_any (m : MapS) (w : World) : Calls Try.prog 49 #[mapV m] w fun e w' => e = .returned (.int .i64 (sizeP m)) ∧ Keeps NoS w w' := by
  cases hm : mayB m with
  | false =>
    rw [show sizeP m = 0 by simp [sizeP, hm]]
    have HM := Lib.hid hm
    clear hm
    obtain ⟨ms, ml, mt, mc, md⟩ := m
    unfold mapV
    dsimp only at *
    go_enter Try.func49, Try.ntmps49
    go_wp2_with (first | (go_at_call 40; refine (may_any ⟨ms, ml, mt, mc, md⟩ _).mono ?_; rw [HM.out]; rintro e w1 ⟨rfl, hk1⟩; obtain ⟨b0, b1, b2, b3, b4, bz⟩ := box_cells hk1))
    go_ret
    exact ⟨rfl, ((Keeps.refl NoS w).alloc _).trans hk1⟩
  | true =>
    have HM := Lib.hid hm
    have HMay := Lib.hid (may_of hm)
    have hbd := starts_bd (may_of hm)
    obtain ⟨h1, h2, h3, h4, h5, h6, h7, h8, h9, h10⟩ := may_of hm
    rw [show sizeP m = p7 m by simp [sizeP, hm]]
    clear hm
    obtain ⟨ms, ml, mt, mc, md⟩ := m
    unfold mapV
    dsimp only at *
    have hix := fun W => ix8_7 2 (p1 ⟨ms, ml, mt, mc, md⟩) (p2 ⟨ms, ml, mt, mc, md⟩) (p3 ⟨ms, ml, mt, mc, md⟩) (p4 ⟨ms, ml, mt, mc, md⟩) (p5 ⟨ms, ml, mt, mc, md⟩) (p6 ⟨ms, ml, mt, mc, md⟩) (p7 ⟨ms, ml, mt, mc, md⟩) W
    go_enter Try.func49, Try.ntmps49
    go_wp2_with (first | (go_at_call 40; refine (may_any ⟨ms, ml, mt, mc, md⟩ _).mono ?_; rw [HM.out]; rintro e w1 ⟨rfl, hk1⟩; obtain ⟨b0, b1, b2, b3, b4, bz⟩ := box_cells hk1) | (go_at_call 42; refine (starts_any ⟨ms, ml, mt, mc, md⟩ _ HMay.out).mono ?_; rintro e w3 ⟨rfl, hk3⟩))
    go_ret
    exact ⟨rfl, (((Keeps.refl NoS w).alloc _).trans hk1).trans hk3⟩
theorem size_lit (ms ml mt mc md : Int) (v : Int) (h : sizeP ⟨ms, ml, mt, mc, md⟩ = v) (w : World) : Calls Try.prog 49 #[.agg #[.int .i64 ms, .int .i64 ml, .int .i64 mt, .int .i64 mc, .int .i64 md]] w fun e w' => e = .returned (.int .i64 v) ∧ Keeps NoS w w' := by
  subst h; exact size_any ⟨ms, ml, mt, mc, md⟩ w
set_option maxRecDepth 100000 in
theorem seq_any (m : MapS) (w : World) : Calls Try.prog 22 #[mapV m] w fun e w' => e = .returned (.int .i64 (seqP m)) ∧ Keeps NoS w w' := by
  cases hm : mayB m with
  | false =>
    rw [show seqP m = -1 by simp [seqP, hm]]
    have HM := Lib.hid hm
    clear hm
    obtain ⟨ms, ml, mt, mc, md⟩ := m
    unfold mapV
    dsimp only at *
    go_enter Try.func22, Try.ntmps22
    go_wp2_with (first | (go_at_call 40; refine (may_any ⟨ms, ml, mt, mc, md⟩ _).mono ?_; rw [HM.out]; rintro e w1 ⟨rfl, hk1⟩; obtain ⟨b0, b1, b2, b3, b4, bz⟩ := box_cells hk1))
    go_ret
    exact ⟨rfl, ((Keeps.refl NoS w).alloc _).trans hk1⟩
  | true =>
    have HM := Lib.hid hm
    have HMay := Lib.hid (may_of hm)
    have hbd := starts_bd (may_of hm)
    obtain ⟨h1, h2, h3, h4, h5, h6, h7, h8, h9, h10⟩ := may_of hm
    rw [show seqP m = 1 by simp [seqP, hm]]
    clear hm
    obtain ⟨ms, ml, mt, mc, md⟩ := m
    unfold mapV
    dsimp only at *
    go_enter Try.func22, Try.ntmps22
    go_wp2_with (first | (go_at_call 40; refine (may_any ⟨ms, ml, mt, mc, md⟩ _).mono ?_; rw [HM.out]; rintro e w1 ⟨rfl, hk1⟩; obtain ⟨b0, b1, b2, b3, b4, bz⟩ := box_cells hk1))
    go_ret
    exact ⟨rfl, ((Keeps.refl NoS w).alloc _).trans hk1⟩
theorem seq_lit (ms ml mt mc md : Int) (v : Int) (h : seqP ⟨ms, ml, mt, mc, md⟩ = v) (w : World) : Calls Try.prog 22 #[.agg #[.int .i64 ms, .int .i64 ml, .int .i64 mt, .int .i64 mc, .int .i64 md]] w fun e w' => e = .returned (.int .i64 v) ∧ Keeps NoS w w' := by
  subst h; exact seq_any ⟨ms, ml, mt, mc, md⟩ w
set_option maxRecDepth 100000 in
theorem stripeAt_any (m : MapS) (x0 : Int) (w : World) : Calls Try.prog 27 #[mapV m, .int .i64 x0] w fun e w' => e = .returned (.int .i64 (stripeP m x0)) ∧ Keeps NoS w w' := by
  cases hm : mayB m with
  | false =>
    rw [show stripeP m x0 = -1 by simp [stripeP, hm]]
    have HM := Lib.hid hm
    clear hm
    obtain ⟨ms, ml, mt, mc, md⟩ := m
    unfold mapV
    dsimp only at *
    go_enter Try.func27, Try.ntmps27
    go_wp2_with (first | (go_at_call 40; refine (may_any ⟨ms, ml, mt, mc, md⟩ _).mono ?_; rw [HM.out]; rintro e w1 ⟨rfl, hk1⟩; obtain ⟨b0, b1, b2, b3, b4, bz⟩ := box_cells hk1) | (go_at_call 41; refine (in_any _ _ _).mono ?_; rintro e w2 ⟨rfl, rfl⟩))
    go_ret
    exact ⟨rfl, ((Keeps.refl NoS w).alloc _).trans hk1⟩
  | true =>
    have HM := Lib.hid hm
    have HMay := Lib.hid (may_of hm)
    have hbd := starts_bd (may_of hm)
    obtain ⟨h1, h2, h3, h4, h5, h6, h7, h8, h9, h10⟩ := may_of hm
    by_cases g0 : 0 ≤ x0 ∧ x0 < m.s
    rotate_left
    · have hb := inB_not g0
      rw [show stripeP m x0 = -1 by simp [stripeP, hb]]
      clear hm
      obtain ⟨ms, ml, mt, mc, md⟩ := m
      unfold mapV
      dsimp only at *
      go_enter Try.func27, Try.ntmps27
      go_wp2_with (first | (go_at_call 40; refine (may_any ⟨ms, ml, mt, mc, md⟩ _).mono ?_; rw [HM.out]; rintro e w1 ⟨rfl, hk1⟩; obtain ⟨b0, b1, b2, b3, b4, bz⟩ := box_cells hk1) | (go_at_call 41; refine (in_any _ _ _).mono ?_; rintro e w2 ⟨rfl, rfl⟩))
      go_ret
      exact ⟨rfl, ((Keeps.refl NoS w).alloc _).trans hk1⟩
    have q0 := inB_of g0.1 g0.2
    obtain ⟨u0, v0⟩ := g0
    rw [show stripeP m x0 = 2 + x0 by simp [stripeP, hm, q0]]
    clear hm
    obtain ⟨ms, ml, mt, mc, md⟩ := m
    unfold mapV
    dsimp only at *
    have hix := fun W => ix8_0 2 (p1 ⟨ms, ml, mt, mc, md⟩) (p2 ⟨ms, ml, mt, mc, md⟩) (p3 ⟨ms, ml, mt, mc, md⟩) (p4 ⟨ms, ml, mt, mc, md⟩) (p5 ⟨ms, ml, mt, mc, md⟩) (p6 ⟨ms, ml, mt, mc, md⟩) (p7 ⟨ms, ml, mt, mc, md⟩) W
    go_enter Try.func27, Try.ntmps27
    go_wp2_with (first | (go_at_call 40; refine (may_any ⟨ms, ml, mt, mc, md⟩ _).mono ?_; rw [HM.out]; rintro e w1 ⟨rfl, hk1⟩; obtain ⟨b0, b1, b2, b3, b4, bz⟩ := box_cells hk1) | (go_at_call 41; refine (in_any _ _ _).mono ?_; rintro e w2 ⟨rfl, rfl⟩) | (go_at_call 42; refine (starts_any ⟨ms, ml, mt, mc, md⟩ _ HMay.out).mono ?_; rintro e w3 ⟨rfl, hk3⟩))
    go_ret
    exact ⟨rfl, (((Keeps.refl NoS w).alloc _).trans hk1).trans hk3⟩
theorem stripeAt_lit (ms ml mt mc md x0 : Int) (v : Int) (h : stripeP ⟨ms, ml, mt, mc, md⟩ x0 = v) (w : World) : Calls Try.prog 27 #[.agg #[.int .i64 ms, .int .i64 ml, .int .i64 mt, .int .i64 mc, .int .i64 md], .int .i64 x0] w fun e w' => e = .returned (.int .i64 v) ∧ Keeps NoS w w' := by
  subst h; exact stripeAt_any ⟨ms, ml, mt, mc, md⟩ x0 w
set_option maxRecDepth 100000 in
theorem lock_any (m : MapS) (x0 x1 : Int) (w : World) : Calls Try.prog 13 #[mapV m, .int .i64 x0, .int .i64 x1] w fun e w' => e = .returned (.int .i64 (lockP m x0 x1)) ∧ Keeps NoS w w' := by
  cases hm : mayB m with
  | false =>
    rw [show lockP m x0 x1 = -1 by simp [lockP, hm]]
    have HM := Lib.hid hm
    clear hm
    obtain ⟨ms, ml, mt, mc, md⟩ := m
    unfold mapV
    dsimp only at *
    go_enter Try.func13, Try.ntmps13
    go_wp2_with (first | (go_at_call 40; refine (may_any ⟨ms, ml, mt, mc, md⟩ _).mono ?_; rw [HM.out]; rintro e w1 ⟨rfl, hk1⟩; obtain ⟨b0, b1, b2, b3, b4, bz⟩ := box_cells hk1) | (go_at_call 41; refine (in_any _ _ _).mono ?_; rintro e w2 ⟨rfl, rfl⟩))
    go_ret
    exact ⟨rfl, ((Keeps.refl NoS w).alloc _).trans hk1⟩
  | true =>
    have HM := Lib.hid hm
    have HMay := Lib.hid (may_of hm)
    have hbd := starts_bd (may_of hm)
    obtain ⟨h1, h2, h3, h4, h5, h6, h7, h8, h9, h10⟩ := may_of hm
    by_cases g0 : 0 ≤ x0 ∧ x0 < m.l
    rotate_left
    · have hb := inB_not g0
      rw [show lockP m x0 x1 = -1 by simp [lockP, hb]]
      clear hm
      obtain ⟨ms, ml, mt, mc, md⟩ := m
      unfold mapV
      dsimp only at *
      go_enter Try.func13, Try.ntmps13
      go_wp2_with (first | (go_at_call 40; refine (may_any ⟨ms, ml, mt, mc, md⟩ _).mono ?_; rw [HM.out]; rintro e w1 ⟨rfl, hk1⟩; obtain ⟨b0, b1, b2, b3, b4, bz⟩ := box_cells hk1) | (go_at_call 41; refine (in_any _ _ _).mono ?_; rintro e w2 ⟨rfl, rfl⟩))
      go_ret
      exact ⟨rfl, ((Keeps.refl NoS w).alloc _).trans hk1⟩
    have q0 := inB_of g0.1 g0.2
    obtain ⟨u0, v0⟩ := g0
    by_cases g1 : 0 ≤ x1 ∧ x1 < 6
    rotate_left
    · have hb := inB_not g1
      rw [show lockP m x0 x1 = -1 by simp [lockP, hb]]
      clear hm
      obtain ⟨ms, ml, mt, mc, md⟩ := m
      unfold mapV
      dsimp only at *
      go_enter Try.func13, Try.ntmps13
      go_wp2_with (first | (go_at_call 40; refine (may_any ⟨ms, ml, mt, mc, md⟩ _).mono ?_; rw [HM.out]; rintro e w1 ⟨rfl, hk1⟩; obtain ⟨b0, b1, b2, b3, b4, bz⟩ := box_cells hk1) | (go_at_call 41; refine (in_any _ _ _).mono ?_; rintro e w2 ⟨rfl, rfl⟩))
      go_ret
      exact ⟨rfl, ((Keeps.refl NoS w).alloc _).trans hk1⟩
    have q1 := inB_of g1.1 g1.2
    obtain ⟨u1, v1⟩ := g1
    rw [show lockP m x0 x1 = p1 m + 6 * x0 + x1 by simp [lockP, hm, q0, q1]]
    clear hm
    obtain ⟨ms, ml, mt, mc, md⟩ := m
    unfold mapV
    dsimp only at *
    have hix := fun W => ix8_1 2 (p1 ⟨ms, ml, mt, mc, md⟩) (p2 ⟨ms, ml, mt, mc, md⟩) (p3 ⟨ms, ml, mt, mc, md⟩) (p4 ⟨ms, ml, mt, mc, md⟩) (p5 ⟨ms, ml, mt, mc, md⟩) (p6 ⟨ms, ml, mt, mc, md⟩) (p7 ⟨ms, ml, mt, mc, md⟩) W
    go_enter Try.func13, Try.ntmps13
    go_wp2_with (first | (go_at_call 40; refine (may_any ⟨ms, ml, mt, mc, md⟩ _).mono ?_; rw [HM.out]; rintro e w1 ⟨rfl, hk1⟩; obtain ⟨b0, b1, b2, b3, b4, bz⟩ := box_cells hk1) | (go_at_call 41; refine (in_any _ _ _).mono ?_; rintro e w2 ⟨rfl, rfl⟩) | (go_at_call 42; refine (starts_any ⟨ms, ml, mt, mc, md⟩ _ HMay.out).mono ?_; rintro e w3 ⟨rfl, hk3⟩))
    go_ret
    exact ⟨rfl, (((Keeps.refl NoS w).alloc _).trans hk1).trans hk3⟩
theorem lock_lit (ms ml mt mc md x0 x1 : Int) (v : Int) (h : lockP ⟨ms, ml, mt, mc, md⟩ x0 x1 = v) (w : World) : Calls Try.prog 13 #[.agg #[.int .i64 ms, .int .i64 ml, .int .i64 mt, .int .i64 mc, .int .i64 md], .int .i64 x0, .int .i64 x1] w fun e w' => e = .returned (.int .i64 v) ∧ Keeps NoS w w' := by
  subst h; exact lock_any ⟨ms, ml, mt, mc, md⟩ x0 x1 w
set_option maxRecDepth 100000 in
theorem threadAt_any (m : MapS) (x0 x1 : Int) (w : World) : Calls Try.prog 23 #[mapV m, .int .i64 x0, .int .i64 x1] w fun e w' => e = .returned (.int .i64 (threadP m x0 x1)) ∧ Keeps NoS w w' := by
  cases hm : mayB m with
  | false =>
    rw [show threadP m x0 x1 = -1 by simp [threadP, hm]]
    have HM := Lib.hid hm
    clear hm
    obtain ⟨ms, ml, mt, mc, md⟩ := m
    unfold mapV
    dsimp only at *
    go_enter Try.func23, Try.ntmps23
    go_wp2_with (first | (go_at_call 40; refine (may_any ⟨ms, ml, mt, mc, md⟩ _).mono ?_; rw [HM.out]; rintro e w1 ⟨rfl, hk1⟩; obtain ⟨b0, b1, b2, b3, b4, bz⟩ := box_cells hk1) | (go_at_call 41; refine (in_any _ _ _).mono ?_; rintro e w2 ⟨rfl, rfl⟩))
    go_ret
    exact ⟨rfl, ((Keeps.refl NoS w).alloc _).trans hk1⟩
  | true =>
    have HM := Lib.hid hm
    have HMay := Lib.hid (may_of hm)
    have hbd := starts_bd (may_of hm)
    obtain ⟨h1, h2, h3, h4, h5, h6, h7, h8, h9, h10⟩ := may_of hm
    by_cases g0 : 0 ≤ x0 ∧ x0 < m.t
    rotate_left
    · have hb := inB_not g0
      rw [show threadP m x0 x1 = -1 by simp [threadP, hb]]
      clear hm
      obtain ⟨ms, ml, mt, mc, md⟩ := m
      unfold mapV
      dsimp only at *
      go_enter Try.func23, Try.ntmps23
      go_wp2_with (first | (go_at_call 40; refine (may_any ⟨ms, ml, mt, mc, md⟩ _).mono ?_; rw [HM.out]; rintro e w1 ⟨rfl, hk1⟩; obtain ⟨b0, b1, b2, b3, b4, bz⟩ := box_cells hk1) | (go_at_call 41; refine (in_any _ _ _).mono ?_; rintro e w2 ⟨rfl, rfl⟩))
      go_ret
      exact ⟨rfl, ((Keeps.refl NoS w).alloc _).trans hk1⟩
    have q0 := inB_of g0.1 g0.2
    obtain ⟨u0, v0⟩ := g0
    by_cases g1 : 0 ≤ x1 ∧ x1 < 2
    rotate_left
    · have hb := inB_not g1
      rw [show threadP m x0 x1 = -1 by simp [threadP, hb]]
      clear hm
      obtain ⟨ms, ml, mt, mc, md⟩ := m
      unfold mapV
      dsimp only at *
      go_enter Try.func23, Try.ntmps23
      go_wp2_with (first | (go_at_call 40; refine (may_any ⟨ms, ml, mt, mc, md⟩ _).mono ?_; rw [HM.out]; rintro e w1 ⟨rfl, hk1⟩; obtain ⟨b0, b1, b2, b3, b4, bz⟩ := box_cells hk1) | (go_at_call 41; refine (in_any _ _ _).mono ?_; rintro e w2 ⟨rfl, rfl⟩))
      go_ret
      exact ⟨rfl, ((Keeps.refl NoS w).alloc _).trans hk1⟩
    have q1 := inB_of g1.1 g1.2
    obtain ⟨u1, v1⟩ := g1
    rw [show threadP m x0 x1 = p2 m + 2 * x0 + x1 by simp [threadP, hm, q0, q1]]
    clear hm
    obtain ⟨ms, ml, mt, mc, md⟩ := m
    unfold mapV
    dsimp only at *
    have hix := fun W => ix8_2 2 (p1 ⟨ms, ml, mt, mc, md⟩) (p2 ⟨ms, ml, mt, mc, md⟩) (p3 ⟨ms, ml, mt, mc, md⟩) (p4 ⟨ms, ml, mt, mc, md⟩) (p5 ⟨ms, ml, mt, mc, md⟩) (p6 ⟨ms, ml, mt, mc, md⟩) (p7 ⟨ms, ml, mt, mc, md⟩) W
    go_enter Try.func23, Try.ntmps23
    go_wp2_with (first | (go_at_call 40; refine (may_any ⟨ms, ml, mt, mc, md⟩ _).mono ?_; rw [HM.out]; rintro e w1 ⟨rfl, hk1⟩; obtain ⟨b0, b1, b2, b3, b4, bz⟩ := box_cells hk1) | (go_at_call 41; refine (in_any _ _ _).mono ?_; rintro e w2 ⟨rfl, rfl⟩) | (go_at_call 42; refine (starts_any ⟨ms, ml, mt, mc, md⟩ _ HMay.out).mono ?_; rintro e w3 ⟨rfl, hk3⟩))
    go_ret
    exact ⟨rfl, (((Keeps.refl NoS w).alloc _).trans hk1).trans hk3⟩
theorem threadAt_lit (ms ml mt mc md x0 x1 : Int) (v : Int) (h : threadP ⟨ms, ml, mt, mc, md⟩ x0 x1 = v) (w : World) : Calls Try.prog 23 #[.agg #[.int .i64 ms, .int .i64 ml, .int .i64 mt, .int .i64 mc, .int .i64 md], .int .i64 x0, .int .i64 x1] w fun e w' => e = .returned (.int .i64 v) ∧ Keeps NoS w w' := by
  subst h; exact threadAt_any ⟨ms, ml, mt, mc, md⟩ x0 x1 w
set_option maxRecDepth 100000 in
theorem dataAt_any (m : MapS) (x0 : Int) (w : World) : Calls Try.prog 20 #[mapV m, .int .i64 x0] w fun e w' => e = .returned (.int .i64 (dataP m x0)) ∧ Keeps NoS w w' := by
  cases hm : mayB m with
  | false =>
    rw [show dataP m x0 = -1 by simp [dataP, hm]]
    have HM := Lib.hid hm
    clear hm
    obtain ⟨ms, ml, mt, mc, md⟩ := m
    unfold mapV
    dsimp only at *
    go_enter Try.func20, Try.ntmps20
    go_wp2_with (first | (go_at_call 40; refine (may_any ⟨ms, ml, mt, mc, md⟩ _).mono ?_; rw [HM.out]; rintro e w1 ⟨rfl, hk1⟩; obtain ⟨b0, b1, b2, b3, b4, bz⟩ := box_cells hk1) | (go_at_call 41; refine (in_any _ _ _).mono ?_; rintro e w2 ⟨rfl, rfl⟩))
    go_ret
    exact ⟨rfl, ((Keeps.refl NoS w).alloc _).trans hk1⟩
  | true =>
    have HM := Lib.hid hm
    have HMay := Lib.hid (may_of hm)
    have hbd := starts_bd (may_of hm)
    obtain ⟨h1, h2, h3, h4, h5, h6, h7, h8, h9, h10⟩ := may_of hm
    by_cases g0 : 0 ≤ x0 ∧ x0 < m.d
    rotate_left
    · have hb := inB_not g0
      rw [show dataP m x0 = -1 by simp [dataP, hb]]
      clear hm
      obtain ⟨ms, ml, mt, mc, md⟩ := m
      unfold mapV
      dsimp only at *
      go_enter Try.func20, Try.ntmps20
      go_wp2_with (first | (go_at_call 40; refine (may_any ⟨ms, ml, mt, mc, md⟩ _).mono ?_; rw [HM.out]; rintro e w1 ⟨rfl, hk1⟩; obtain ⟨b0, b1, b2, b3, b4, bz⟩ := box_cells hk1) | (go_at_call 41; refine (in_any _ _ _).mono ?_; rintro e w2 ⟨rfl, rfl⟩))
      go_ret
      exact ⟨rfl, ((Keeps.refl NoS w).alloc _).trans hk1⟩
    have q0 := inB_of g0.1 g0.2
    obtain ⟨u0, v0⟩ := g0
    rw [show dataP m x0 = p6 m + 2 * x0 by simp [dataP, hm, q0]]
    clear hm
    obtain ⟨ms, ml, mt, mc, md⟩ := m
    unfold mapV
    dsimp only at *
    have hix := fun W => ix8_6 2 (p1 ⟨ms, ml, mt, mc, md⟩) (p2 ⟨ms, ml, mt, mc, md⟩) (p3 ⟨ms, ml, mt, mc, md⟩) (p4 ⟨ms, ml, mt, mc, md⟩) (p5 ⟨ms, ml, mt, mc, md⟩) (p6 ⟨ms, ml, mt, mc, md⟩) (p7 ⟨ms, ml, mt, mc, md⟩) W
    go_enter Try.func20, Try.ntmps20
    go_wp2_with (first | (go_at_call 40; refine (may_any ⟨ms, ml, mt, mc, md⟩ _).mono ?_; rw [HM.out]; rintro e w1 ⟨rfl, hk1⟩; obtain ⟨b0, b1, b2, b3, b4, bz⟩ := box_cells hk1) | (go_at_call 41; refine (in_any _ _ _).mono ?_; rintro e w2 ⟨rfl, rfl⟩) | (go_at_call 42; refine (starts_any ⟨ms, ml, mt, mc, md⟩ _ HMay.out).mono ?_; rintro e w3 ⟨rfl, hk3⟩))
    go_ret
    exact ⟨rfl, (((Keeps.refl NoS w).alloc _).trans hk1).trans hk3⟩
theorem dataAt_lit (ms ml mt mc md x0 : Int) (v : Int) (h : dataP ⟨ms, ml, mt, mc, md⟩ x0 = v) (w : World) : Calls Try.prog 20 #[.agg #[.int .i64 ms, .int .i64 ml, .int .i64 mt, .int .i64 mc, .int .i64 md], .int .i64 x0] w fun e w' => e = .returned (.int .i64 v) ∧ Keeps NoS w w' := by
  subst h; exact dataAt_any ⟨ms, ml, mt, mc, md⟩ x0 w
end Go.Proofs.Ytfmamedkiaimpaa
