/- What a row asks for, and what it is behind each answer, is what the document says (the walk). -/
import Derived.Test.YtodaiogefgdcpaaCondqAsksS
import Derived.Test.YtodaiogefgdcpaaCondqRefFed
import Derived.Test.YtodaiogefgdcpaaCondqTold
import Derived.Test.YtodaiogefgdcpaaDag
namespace Go.Proofs.Ytodaiogefgdcpaa
open Go.RowKit
theorem mod_bdC (z : Int) (n : Int) (h : 0 < n) : ∃ q, (IntKind.u64.wrap z).tmod n = q ∧ 0 ≤ q ∧ q < n := ⟨_, rfl, (u64_tmod_bd z n (by omega)).1, (u64_tmod_bd z n (by omega)).2⟩
theorem ca_keep {w wr : World} {B F R : Nat} {k1 c1 t1 s1 f1 l1 : Int} (hS : Bg w wr [(F, 43, #[.int .i64 1, .int .i64 1, .int .i64 4, .int .i64 2, .int .i64 1]), (B, 25, #[.int .i64 1, .int .i64 1, .int .i64 4, .int .i64 2, .int .i64 1]), (R, 70, #[.int .i64 k1, .int .i64 c1, .int .i64 t1, .int .i64 s1, .int .i64 f1, .int .i64 l1])]) : (wr.cell? ⟨F, 0, none⟩ = some (.int .i64 1) ∧ wr.cell? ⟨F, 1, none⟩ = some (.int .i64 1) ∧ wr.cell? ⟨F, 2, none⟩ = some (.int .i64 4) ∧ wr.cell? ⟨F, 3, none⟩ = some (.int .i64 2) ∧ wr.cell? ⟨F, 4, none⟩ = some (.int .i64 1)) ∧ (wr.cell? ⟨B, 0, none⟩ = some (.int .i64 1) ∧ wr.cell? ⟨B, 1, none⟩ = some (.int .i64 1) ∧ wr.cell? ⟨B, 2, none⟩ = some (.int .i64 4) ∧ wr.cell? ⟨B, 3, none⟩ = some (.int .i64 2) ∧ wr.cell? ⟨B, 4, none⟩ = some (.int .i64 1)) ∧ (wr.cell? ⟨R, 0, none⟩ = some (.int .i64 k1) ∧ wr.cell? ⟨R, 1, none⟩ = some (.int .i64 c1) ∧ wr.cell? ⟨R, 2, none⟩ = some (.int .i64 t1) ∧ wr.cell? ⟨R, 3, none⟩ = some (.int .i64 s1) ∧ wr.cell? ⟨R, 4, none⟩ = some (.int .i64 f1) ∧ wr.cell? ⟨R, 5, none⟩ = some (.int .i64 l1)) := ⟨hS.b0.cells5, hS.tl.b0.cells5, hS.tl.tl.b0.cells6⟩
theorem ca_keep8 {w wr : World} {B F R g1 g2 g3 g4 g5 : Nat} {k1 c1 t1 s1 f1 l1 ak aa av xk xc xt xs xf xl zs : Int} (hS : Bg w wr ((g5, 70, #[.int .i64 k1, .int .i64 c1, .int .i64 t1, .int .i64 zs, .int .i64 0, .int .i64 0]) :: ((g4, 76, #[.int .i64 xk, .int .i64 xc, .int .i64 xt, .int .i64 xs, .int .i64 xf, .int .i64 xl]) :: (g3, 70, #[.int .i64 xk, .int .i64 xc, .int .i64 xt, .int .i64 xs, .int .i64 xf, .int .i64 xl]) :: ((g2, 74, #[.int .i64 ak, .int .i64 aa, .int .i64 av]) :: (g1, 72, #[.int .i64 ak, .int .i64 aa, .int .i64 av]) :: [(F, 43, #[.int .i64 1, .int .i64 1, .int .i64 4, .int .i64 2, .int .i64 1]), (B, 25, #[.int .i64 1, .int .i64 1, .int .i64 4, .int .i64 2, .int .i64 1]), (R, 70, #[.int .i64 k1, .int .i64 c1, .int .i64 t1, .int .i64 s1, .int .i64 f1, .int .i64 l1])])))) : (wr.cell? ⟨R, 0, none⟩ = some (.int .i64 k1) ∧ wr.cell? ⟨R, 1, none⟩ = some (.int .i64 c1) ∧ wr.cell? ⟨R, 2, none⟩ = some (.int .i64 t1) ∧ wr.cell? ⟨R, 3, none⟩ = some (.int .i64 s1) ∧ wr.cell? ⟨R, 4, none⟩ = some (.int .i64 f1) ∧ wr.cell? ⟨R, 5, none⟩ = some (.int .i64 l1)) ∧ (wr.cell? ⟨g1, 0, none⟩ = some (.int .i64 ak) ∧ wr.cell? ⟨g1, 1, none⟩ = some (.int .i64 aa) ∧ wr.cell? ⟨g1, 2, none⟩ = some (.int .i64 av)) ∧ (wr.cell? ⟨g2, 0, none⟩ = some (.int .i64 ak) ∧ wr.cell? ⟨g2, 1, none⟩ = some (.int .i64 aa) ∧ wr.cell? ⟨g2, 2, none⟩ = some (.int .i64 av)) ∧ (wr.cell? ⟨g3, 0, none⟩ = some (.int .i64 xk) ∧ wr.cell? ⟨g3, 1, none⟩ = some (.int .i64 xc) ∧ wr.cell? ⟨g3, 2, none⟩ = some (.int .i64 xt) ∧ wr.cell? ⟨g3, 3, none⟩ = some (.int .i64 xs) ∧ wr.cell? ⟨g3, 4, none⟩ = some (.int .i64 xf) ∧ wr.cell? ⟨g3, 5, none⟩ = some (.int .i64 xl)) ∧ (wr.cell? ⟨g4, 0, none⟩ = some (.int .i64 xk) ∧ wr.cell? ⟨g4, 1, none⟩ = some (.int .i64 xc) ∧ wr.cell? ⟨g4, 2, none⟩ = some (.int .i64 xt) ∧ wr.cell? ⟨g4, 3, none⟩ = some (.int .i64 xs) ∧ wr.cell? ⟨g4, 4, none⟩ = some (.int .i64 xf) ∧ wr.cell? ⟨g4, 5, none⟩ = some (.int .i64 xl)) ∧ (wr.cell? ⟨g5, 0, none⟩ = some (.int .i64 k1) ∧ wr.cell? ⟨g5, 1, none⟩ = some (.int .i64 c1) ∧ wr.cell? ⟨g5, 2, none⟩ = some (.int .i64 t1) ∧ wr.cell? ⟨g5, 3, none⟩ = some (.int .i64 zs) ∧ wr.cell? ⟨g5, 4, none⟩ = some (.int .i64 0) ∧ wr.cell? ⟨g5, 5, none⟩ = some (.int .i64 0)) :=
  ⟨hS.tl.tl.tl.tl.tl.tl.tl.b0.cells6, hS.tl.tl.tl.tl.b0.cells3, hS.tl.tl.tl.b0.cells3, hS.tl.tl.b0.cells6, hS.tl.b0.cells6, hS.b0.cells6⟩
theorem list6 {L : List Int} (h : L.length = 6) : ∃ a b c d e f, L = [a, b, c, d, e, f] := by
  match L, h with
  | [a, b, c, d, e, f], _ => exact ⟨a, b, c, d, e, f, rfl⟩
set_option maxHeartbeats 40000000 in
set_option maxRecDepth 100000 in
theorem condqAsks_walk (w : World) (L : List Int) (hL : L.length = 6) (_f0 : ∀ k, k < L.length → (Lit.int .i64 (L.getD k 0)).wf = true) (near : Bool) (v0 : Int) (_ev : (Lit.int .i64 v0).wf = true) (small : Bool) :
    Calls Try.prog 9 #[.agg (nums L), .bool near, .int .i64 v0, .bool small] w fun e w' => e = .returned (.bool true) ∧ Keeps NoS w w' := by
  obtain ⟨k0, c0, t0, s0, f0, l0, rfl⟩ := list6 hL
  have hs0 : s0 ≤ 9223372036854775807 := (wf_bd (_f0 3 (by simp))).2
  clear hL _f0 _ev
  show Calls Try.prog 9 #[.agg #[.int .i64 k0, .int .i64 c0, .int .i64 t0, .int .i64 s0, .int .i64 f0, .int .i64 l0], .bool near, .int .i64 v0, .bool small] w _
  have h0 := (Bg.nil w).new #[.int .i64 k0, .int .i64 c0, .int .i64 t0, .int .i64 s0, .int .i64 f0, .int .i64 l0] 70
  obtain ⟨R, hR⟩ : ∃ R, w.heap.size = R := ⟨_, rfl⟩
  rw [hR] at h0
  have HS0 := Lib.hid hs0; have H0 := Lib.hid h0
  clear hs0 h0
  go_enter Try.func9, Try.ntmps9
  go_wp2_with fail
  (try rw [hR])
  generalize w.alloc (.cells #[.int .i64 k0, .int .i64 c0, .int .i64 t0, .int .i64 s0, .int .i64 f0, .int .i64 l0] 70) = wa at *
  clear hR
  refine (map20_any _).mono ?_
  rintro e wb ⟨rfl, hk1⟩
  have h1 := (H0.out.no hk1).new #[.int .i64 1, .int .i64 1, .int .i64 4, .int .i64 2, .int .i64 1] 25
  go_wp2_with fail
  obtain ⟨B, hB⟩ : ∃ B, wb.heap.size = B := ⟨_, rfl⟩
  rw [hB] at h1
  (try rw [hB])
  generalize wb.alloc (.cells #[.int .i64 1, .int .i64 1, .int .i64 4, .int .i64 2, .int .i64 1] 25) = wc at *
  clear hB hk1 H0
  obtain ⟨z0, z1, z2, z3, z4⟩ := h1.b0.cells5
  have H1 := Lib.hid h1
  clear h1
  go_wp2_with fail
  refine (ref_any ⟨1, 1, 4, 2, 1⟩ _).mono ?_
  rintro e wd ⟨rfl, hk2⟩
  unfold mapV; dsimp only
  have h2 := (H1.out.no hk2).new #[.int .i64 1, .int .i64 1, .int .i64 4, .int .i64 2, .int .i64 1] 43
  go_upto_if 19 with fail
  obtain ⟨F, hF⟩ : ∃ F, wd.heap.size = F := ⟨_, rfl⟩
  rw [hF] at h2
  (try rw [hF])
  generalize wd.alloc (.cells #[.int .i64 1, .int .i64 1, .int .i64 4, .int .i64 2, .int .i64 1] 43) = we at *
  have hS : Bg w we [(F, 43, #[.int .i64 1, .int .i64 1, .int .i64 4, .int .i64 2, .int .i64 1]), (B, 25, #[.int .i64 1, .int .i64 1, .int .i64 4, .int .i64 2, .int .i64 1]), (R, 70, #[.int .i64 k0, .int .i64 c0, .int .i64 t0, .int .i64 s0, .int .i64 f0, .int .i64 l0])] := h2
  have hBR : B ≠ R := fun e => by
    have h := h2.tl.b0
    have h' := h2.tl.tl.b0
    rw [e] at h
    have := h.symm.trans h'
    simp at this
  have hFR : F ≠ R := fun e => by
    have h := h2.b0
    have h' := h2.tl.tl.b0
    rw [e] at h
    have := h.symm.trans h'
    simp at this
  have HS := Lib.hid hS
  clear hF hk2 h2 hS z0 z1 z2 z3 z4 H1
  go_cut [] (fun wx => ∃ k c t s f l : Int, s ≤ 9223372036854775807 ∧ Bg w wx [(F, 43, #[.int .i64 1, .int .i64 1, .int .i64 4, .int .i64 2, .int .i64 1]), (B, 25, #[.int .i64 1, .int .i64 1, .int .i64 4, .int .i64 2, .int .i64 1]), (R, 70, #[.int .i64 k, .int .i64 c, .int .i64 t, .int .i64 s, .int .i64 f, .int .i64 l])])
  case first =>
    cases near
    · go_wp2_with fail
      go_meet
      exact ⟨_, _, _, _, _, _, HS0.out, HS.out⟩
    · obtain ⟨z0, z1, z2, z3, z4, z5⟩ := HS.out.tl.tl.b0.cells6
      have y0 := HS.out.tl.tl.b0.free 0; have y1 := HS.out.tl.tl.b0.free 1; have y2 := HS.out.tl.tl.b0.free 2; have y3 := HS.out.tl.tl.b0.free 3; have y4 := HS.out.tl.tl.b0.free 4; have y5 := HS.out.tl.tl.b0.free 5
      obtain ⟨q0, hq0, a0, b0⟩ := mod_bdC k0 3 (by omega)
      obtain ⟨q1, hq1, a1, b1⟩ := mod_bdC c0 2 (by omega)
      obtain ⟨q2, hq2, a2, b2⟩ := mod_bdC t0 4 (by omega)
      obtain ⟨q3, hq3, a3, b3⟩ := mod_bdC s0 16 (by omega)
      obtain ⟨q4, hq4⟩ : ∃ q, f0.tmod 1099511627776 = q := ⟨_, rfl⟩
      obtain ⟨q5, hq5⟩ : ∃ q, l0.tmod 1099511627776 = q := ⟨_, rfl⟩
      go_wp2_with fail
      go_meet
      refine ⟨1 + q0, q1, q2, q3, q4, q5, by clear hq0 hq1 hq2 hq3 hq4 hq5; omega, ?_⟩
      have hb := HS.out.tl.tl.b0
      have hb2 := hb.put6 (.int .i64 (1 + q0)) (.int .i64 q1) (.int .i64 q2) (.int .i64 q3) (.int .i64 q4) (.int .i64 q5)
      have hk := kput6 (wr := we) R (.int .i64 (1 + q0)) (.int .i64 q1) (.int .i64 q2) (.int .i64 q3) (.int .i64 q4) (.int .i64 q5)
      have hlo := HS.out.tl.tl.l0
      have hB' := HS.out.tl.b0.far hk hBR
      have hF' := HS.out.b0.far hk hFR
      exact (((Bg.mk (l := []) (HS.out.kp.trans' hk (fun i hi e => by have e' : i = R := e; have hlo' : w.heap.size ≤ R := hlo; omega)) (by simp) (by simp)).push hlo hb2).push HS.out.tl.l0 hB').push HS.out.l0 hF'
  case rest =>
    clear HS HS0
    obtain ⟨k1, c1, t1, s1, f1, l1, hs1, hS⟩ := hcut
    have HS := Lib.hid hS; have HS1 := Lib.hid hs1
    obtain ⟨z0, z1, z2, z3, z4, z5⟩ := hS.tl.tl.b0.cells6
    clear hS hs1
    by_cases hf1 : 4611686018427387904 < f1
    · have d1 : decide (4611686018427387904 < f1) = true := decide_eq_true hf1
      go_wp2_with fail
      refine (told20_any _).mono ?_
      rintro e wz ⟨rfl, hkz⟩
      go_wp2_with fail
      go_ret
      exact ⟨rfl, (HS.out.no hkz).kp⟩
    · have d1 : decide (4611686018427387904 < f1) = false := decide_eq_false hf1
      by_cases hl1 : 4611686018427387904 < l1
      · have d2 : decide (4611686018427387904 < l1) = true := decide_eq_true hl1
        go_wp2_with fail
        refine (told20_any _).mono ?_
        rintro e wz ⟨rfl, hkz⟩
        go_wp2_with fail
        go_ret
        exact ⟨rfl, (HS.out.no hkz).kp⟩
      · have d2 : decide (4611686018427387904 < l1) = false := decide_eq_false hl1
        clear hf1 hl1
        go_upto_if 62 with fail
        go_cut [2] (fun pv wx => ∃ v : Int, pv = .int .i64 v ∧ Bg w wx [(F, 43, #[.int .i64 1, .int .i64 1, .int .i64 4, .int .i64 2, .int .i64 1]), (B, 25, #[.int .i64 1, .int .i64 1, .int .i64 4, .int .i64 2, .int .i64 1]), (R, 70, #[.int .i64 k1, .int .i64 c1, .int .i64 t1, .int .i64 s1, .int .i64 f1, .int .i64 l1])])
        case first =>
          clear d1 d2 z0 z1 z2 z3 z4 z5
          cases small
          · go_wp2_with fail
            go_meet
            exact ⟨_, rfl, HS.out⟩
          · obtain ⟨q0, hq0, a0, b0⟩ := mod_bdC v0 7 (by omega)
            go_wp2_with fail
            go_meet
            exact ⟨q0, rfl, HS.out⟩
        case rest =>
          clear HS d1 d2 z0 z1 z2 z3 z4 z5
          obtain ⟨v, rfl, hS⟩ := hcut
          obtain ⟨qa, hqa⟩ : ∃ q, nextA ⟨1, 1, 4, 2, 1⟩ ⟨k1, c1, t1, s1, f1, l1⟩ = q := ⟨_, rfl⟩
          obtain ⟨ak, aa, av⟩ := qa
          obtain ⟨qx, hqx⟩ : ∃ q, fedR ⟨1, 1, 4, 2, 1⟩ ⟨k1, c1, t1, s1, f1, l1⟩ v = q := ⟨_, rfl⟩
          obtain ⟨xk, xc, xt, xs, xf, xl⟩ := qx
          have HA := Lib.hid hqa; have HX := Lib.hid hqx; have HS := Lib.hid hS
          clear hqa hqx hS
          go_upto_region 10 with fail
          go_cut [11, 12] (fun p1 p2 wx => ∃ g1 g2 : Nat, p1 = .pointer (some ⟨g1, 0, none⟩) ∧ p2 = .pointer (some ⟨g2, 0, none⟩) ∧ Bg w wx ((g2, 74, #[.int .i64 ak, .int .i64 aa, .int .i64 av]) :: (g1, 72, #[.int .i64 ak, .int .i64 aa, .int .i64 av]) :: [(F, 43, #[.int .i64 1, .int .i64 1, .int .i64 4, .int .i64 2, .int .i64 1]), (B, 25, #[.int .i64 1, .int .i64 1, .int .i64 4, .int .i64 2, .int .i64 1]), (R, 70, #[.int .i64 k1, .int .i64 c1, .int .i64 t1, .int .i64 s1, .int .i64 f1, .int .i64 l1])]))
          case first =>
            have hS := HS.out.no ((Keeps.refl NoS _).drew)
            clear HS
            refine wp_region_held_drew (S := (fun w' => (w'.cell? ⟨F, 0, none⟩ = some (.int .i64 1) ∧ w'.cell? ⟨F, 1, none⟩ = some (.int .i64 1) ∧ w'.cell? ⟨F, 2, none⟩ = some (.int .i64 4) ∧ w'.cell? ⟨F, 3, none⟩ = some (.int .i64 2) ∧ w'.cell? ⟨F, 4, none⟩ = some (.int .i64 1)) ∧ (w'.cell? ⟨B, 0, none⟩ = some (.int .i64 1) ∧ w'.cell? ⟨B, 1, none⟩ = some (.int .i64 1) ∧ w'.cell? ⟨B, 2, none⟩ = some (.int .i64 4) ∧ w'.cell? ⟨B, 3, none⟩ = some (.int .i64 2) ∧ w'.cell? ⟨B, 4, none⟩ = some (.int .i64 1)) ∧ (w'.cell? ⟨R, 0, none⟩ = some (.int .i64 k1) ∧ w'.cell? ⟨R, 1, none⟩ = some (.int .i64 c1) ∧ w'.cell? ⟨R, 2, none⟩ = some (.int .i64 t1) ∧ w'.cell? ⟨R, 3, none⟩ = some (.int .i64 s1) ∧ w'.cell? ⟨R, 4, none⟩ = some (.int .i64 f1) ∧ w'.cell? ⟨R, 5, none⟩ = some (.int .i64 l1)))) (by kernel_rfl) (ca_keep hS) (fun hHeld => ?_)
            generalize wc.drew = wq at *
            apply wpAnyH_dag2 (R := (fun (g1 : Nat) (g2 : Nat) (wq : World) => (Bg w wq [(F, 43, #[.int .i64 1, .int .i64 1, .int .i64 4, .int .i64 2, .int .i64 1]), (B, 25, #[.int .i64 1, .int .i64 1, .int .i64 4, .int .i64 2, .int .i64 1]), (R, 70, #[.int .i64 k1, .int .i64 c1, .int .i64 t1, .int .i64 s1, .int .i64 f1, .int .i64 l1])]) ∧ (Blk wq g1 72 #[.int .i64 ak, .int .i64 aa, .int .i64 av]) ∧ (Blk wq g2 74 #[.int .i64 ak, .int .i64 aa, .int .i64 av]) ∧ (Off w [(F, 43, #[.int .i64 1, .int .i64 1, .int .i64 4, .int .i64 2, .int .i64 1]), (B, 25, #[.int .i64 1, .int .i64 1, .int .i64 4, .int .i64 2, .int .i64 1]), (R, 70, #[.int .i64 k1, .int .i64 c1, .int .i64 t1, .int .i64 s1, .int .i64 f1, .int .i64 l1])] g1) ∧ (Off w [(F, 43, #[.int .i64 1, .int .i64 1, .int .i64 4, .int .i64 2, .int .i64 1]), (B, 25, #[.int .i64 1, .int .i64 1, .int .i64 4, .int .i64 2, .int .i64 1]), (R, 70, #[.int .i64 k1, .int .i64 c1, .int .i64 t1, .int .i64 s1, .int .i64 f1, .int .i64 l1])] g2) ∧ (g1 ≠ g2)))
            · intro hD0
              apply wpAnyH_dag2 (R := (fun (g1 : Nat) (g2 : Nat) (wq : World) => (Bg w wq [(F, 43, #[.int .i64 1, .int .i64 1, .int .i64 4, .int .i64 2, .int .i64 1]), (B, 25, #[.int .i64 1, .int .i64 1, .int .i64 4, .int .i64 2, .int .i64 1]), (R, 70, #[.int .i64 k1, .int .i64 c1, .int .i64 t1, .int .i64 s1, .int .i64 f1, .int .i64 l1])]) ∧ (Blk wq g1 72 #[.int .i64 ak, .int .i64 aa, .int .i64 av]) ∧ (Blk wq g2 74 #[.int .i64 0, .int .i64 0, .int .i64 0]) ∧ (Off w [(F, 43, #[.int .i64 1, .int .i64 1, .int .i64 4, .int .i64 2, .int .i64 1]), (B, 25, #[.int .i64 1, .int .i64 1, .int .i64 4, .int .i64 2, .int .i64 1]), (R, 70, #[.int .i64 k1, .int .i64 c1, .int .i64 t1, .int .i64 s1, .int .i64 f1, .int .i64 l1])] g1) ∧ (Off w [(F, 43, #[.int .i64 1, .int .i64 1, .int .i64 4, .int .i64 2, .int .i64 1]), (B, 25, #[.int .i64 1, .int .i64 1, .int .i64 4, .int .i64 2, .int .i64 1]), (R, 70, #[.int .i64 k1, .int .i64 c1, .int .i64 t1, .int .i64 s1, .int .i64 f1, .int .i64 l1])] g2) ∧ (g1 ≠ g2)))
              · intro hD1
                apply wpAnyH_dag2 (R := (fun (g1 : Nat) (g2 : Nat) (wq : World) => (Bg w wq [(F, 43, #[.int .i64 1, .int .i64 1, .int .i64 4, .int .i64 2, .int .i64 1]), (B, 25, #[.int .i64 1, .int .i64 1, .int .i64 4, .int .i64 2, .int .i64 1]), (R, 70, #[.int .i64 k1, .int .i64 c1, .int .i64 t1, .int .i64 s1, .int .i64 f1, .int .i64 l1])]) ∧ (Blk wq g1 72 #[.int .i64 0, .int .i64 0, .int .i64 0]) ∧ (Blk wq g2 74 #[.int .i64 0, .int .i64 0, .int .i64 0]) ∧ (Off w [(F, 43, #[.int .i64 1, .int .i64 1, .int .i64 4, .int .i64 2, .int .i64 1]), (B, 25, #[.int .i64 1, .int .i64 1, .int .i64 4, .int .i64 2, .int .i64 1]), (R, 70, #[.int .i64 k1, .int .i64 c1, .int .i64 t1, .int .i64 s1, .int .i64 f1, .int .i64 l1])] g1) ∧ (Off w [(F, 43, #[.int .i64 1, .int .i64 1, .int .i64 4, .int .i64 2, .int .i64 1]), (B, 25, #[.int .i64 1, .int .i64 1, .int .i64 4, .int .i64 2, .int .i64 1]), (R, 70, #[.int .i64 k1, .int .i64 c1, .int .i64 t1, .int .i64 s1, .int .i64 f1, .int .i64 l1])] g2) ∧ (g1 ≠ g2)))
                · intro hD2
                  apply wpAnyH_dag1 (R := (fun (g1 : Nat) (wq : World) => (Bg w wq [(F, 43, #[.int .i64 1, .int .i64 1, .int .i64 4, .int .i64 2, .int .i64 1]), (B, 25, #[.int .i64 1, .int .i64 1, .int .i64 4, .int .i64 2, .int .i64 1]), (R, 70, #[.int .i64 k1, .int .i64 c1, .int .i64 t1, .int .i64 s1, .int .i64 f1, .int .i64 l1])]) ∧ (Blk wq g1 72 #[.int .i64 0, .int .i64 0, .int .i64 0]) ∧ (Off w [(F, 43, #[.int .i64 1, .int .i64 1, .int .i64 4, .int .i64 2, .int .i64 1]), (B, 25, #[.int .i64 1, .int .i64 1, .int .i64 4, .int .i64 2, .int .i64 1]), (R, 70, #[.int .i64 k1, .int .i64 c1, .int .i64 t1, .int .i64 s1, .int .i64 f1, .int .i64 l1])] g1)))
                  · intro hD3
                    apply wpAnyH_dag1 (R := (fun (g2 : Nat) (wq : World) => (Bg w wq [(F, 43, #[.int .i64 1, .int .i64 1, .int .i64 4, .int .i64 2, .int .i64 1]), (B, 25, #[.int .i64 1, .int .i64 1, .int .i64 4, .int .i64 2, .int .i64 1]), (R, 70, #[.int .i64 k1, .int .i64 c1, .int .i64 t1, .int .i64 s1, .int .i64 f1, .int .i64 l1])]) ∧ (Blk wq g2 74 #[.int .i64 0, .int .i64 0, .int .i64 0]) ∧ (Off w [(F, 43, #[.int .i64 1, .int .i64 1, .int .i64 4, .int .i64 2, .int .i64 1]), (B, 25, #[.int .i64 1, .int .i64 1, .int .i64 4, .int .i64 2, .int .i64 1]), (R, 70, #[.int .i64 k1, .int .i64 c1, .int .i64 t1, .int .i64 s1, .int .i64 f1, .int .i64 l1])] g2)))
                    · intro hD4
                      apply wpAnyH_dag0 (R := (fun (wq : World) => (Bg w wq [(F, 43, #[.int .i64 1, .int .i64 1, .int .i64 4, .int .i64 2, .int .i64 1]), (B, 25, #[.int .i64 1, .int .i64 1, .int .i64 4, .int .i64 2, .int .i64 1]), (R, 70, #[.int .i64 k1, .int .i64 c1, .int .i64 t1, .int .i64 s1, .int .i64 f1, .int .i64 l1])])))
                      · intro hD5
                        apply wpAnyH_dag2 (R := (fun (g1 : Nat) (g2 : Nat) (wq : World) => (Bg w wq [(F, 43, #[.int .i64 1, .int .i64 1, .int .i64 4, .int .i64 2, .int .i64 1]), (B, 25, #[.int .i64 1, .int .i64 1, .int .i64 4, .int .i64 2, .int .i64 1]), (R, 70, #[.int .i64 k1, .int .i64 c1, .int .i64 t1, .int .i64 s1, .int .i64 f1, .int .i64 l1])]) ∧ (Blk wq g1 72 #[.int .i64 0, .int .i64 0, .int .i64 0]) ∧ (Blk wq g2 74 #[.int .i64 0, .int .i64 0, .int .i64 0]) ∧ (Off w [(F, 43, #[.int .i64 1, .int .i64 1, .int .i64 4, .int .i64 2, .int .i64 1]), (B, 25, #[.int .i64 1, .int .i64 1, .int .i64 4, .int .i64 2, .int .i64 1]), (R, 70, #[.int .i64 k1, .int .i64 c1, .int .i64 t1, .int .i64 s1, .int .i64 f1, .int .i64 l1])] g1) ∧ (Off w [(F, 43, #[.int .i64 1, .int .i64 1, .int .i64 4, .int .i64 2, .int .i64 1]), (B, 25, #[.int .i64 1, .int .i64 1, .int .i64 4, .int .i64 2, .int .i64 1]), (R, 70, #[.int .i64 k1, .int .i64 c1, .int .i64 t1, .int .i64 s1, .int .i64 f1, .int .i64 l1])] g2) ∧ (g1 ≠ g2)))
                        · intro hD6
                          apply wpAnyH_dag1 (R := (fun (g1 : Nat) (wq : World) => (Bg w wq [(F, 43, #[.int .i64 1, .int .i64 1, .int .i64 4, .int .i64 2, .int .i64 1]), (B, 25, #[.int .i64 1, .int .i64 1, .int .i64 4, .int .i64 2, .int .i64 1]), (R, 70, #[.int .i64 k1, .int .i64 c1, .int .i64 t1, .int .i64 s1, .int .i64 f1, .int .i64 l1])]) ∧ (Blk wq g1 72 #[.int .i64 0, .int .i64 0, .int .i64 0]) ∧ (Off w [(F, 43, #[.int .i64 1, .int .i64 1, .int .i64 4, .int .i64 2, .int .i64 1]), (B, 25, #[.int .i64 1, .int .i64 1, .int .i64 4, .int .i64 2, .int .i64 1]), (R, 70, #[.int .i64 k1, .int .i64 c1, .int .i64 t1, .int .i64 s1, .int .i64 f1, .int .i64 l1])] g1)))
                          · intro hD7
                            apply wpAnyH_dag1 (R := (fun (g2 : Nat) (wq : World) => (Bg w wq [(F, 43, #[.int .i64 1, .int .i64 1, .int .i64 4, .int .i64 2, .int .i64 1]), (B, 25, #[.int .i64 1, .int .i64 1, .int .i64 4, .int .i64 2, .int .i64 1]), (R, 70, #[.int .i64 k1, .int .i64 c1, .int .i64 t1, .int .i64 s1, .int .i64 f1, .int .i64 l1])]) ∧ (Blk wq g2 74 #[.int .i64 0, .int .i64 0, .int .i64 0]) ∧ (Off w [(F, 43, #[.int .i64 1, .int .i64 1, .int .i64 4, .int .i64 2, .int .i64 1]), (B, 25, #[.int .i64 1, .int .i64 1, .int .i64 4, .int .i64 2, .int .i64 1]), (R, 70, #[.int .i64 k1, .int .i64 c1, .int .i64 t1, .int .i64 s1, .int .i64 f1, .int .i64 l1])] g2)))
                            · intro hD8
                              apply wpAnyH_dag0 (R := (fun (wq : World) => (Bg w wq [(F, 43, #[.int .i64 1, .int .i64 1, .int .i64 4, .int .i64 2, .int .i64 1]), (B, 25, #[.int .i64 1, .int .i64 1, .int .i64 4, .int .i64 2, .int .i64 1]), (R, 70, #[.int .i64 k1, .int .i64 c1, .int .i64 t1, .int .i64 s1, .int .i64 f1, .int .i64 l1])])))
                              · intro hD9
                                apply wpAnyH_dag2 (R := (fun (g1 : Nat) (g2 : Nat) (wq : World) => (Bg w wq [(F, 43, #[.int .i64 1, .int .i64 1, .int .i64 4, .int .i64 2, .int .i64 1]), (B, 25, #[.int .i64 1, .int .i64 1, .int .i64 4, .int .i64 2, .int .i64 1]), (R, 70, #[.int .i64 k1, .int .i64 c1, .int .i64 t1, .int .i64 s1, .int .i64 f1, .int .i64 l1])]) ∧ (Blk wq g1 72 #[.int .i64 0, .int .i64 0, .int .i64 0]) ∧ (Blk wq g2 74 #[.int .i64 0, .int .i64 0, .int .i64 0]) ∧ (Off w [(F, 43, #[.int .i64 1, .int .i64 1, .int .i64 4, .int .i64 2, .int .i64 1]), (B, 25, #[.int .i64 1, .int .i64 1, .int .i64 4, .int .i64 2, .int .i64 1]), (R, 70, #[.int .i64 k1, .int .i64 c1, .int .i64 t1, .int .i64 s1, .int .i64 f1, .int .i64 l1])] g1) ∧ (Off w [(F, 43, #[.int .i64 1, .int .i64 1, .int .i64 4, .int .i64 2, .int .i64 1]), (B, 25, #[.int .i64 1, .int .i64 1, .int .i64 4, .int .i64 2, .int .i64 1]), (R, 70, #[.int .i64 k1, .int .i64 c1, .int .i64 t1, .int .i64 s1, .int .i64 f1, .int .i64 l1])] g2) ∧ (g1 ≠ g2)))
                                · intro hD10
                                  apply wpAnyH_dag1 (R := (fun (g1 : Nat) (wq : World) => (Bg w wq [(F, 43, #[.int .i64 1, .int .i64 1, .int .i64 4, .int .i64 2, .int .i64 1]), (B, 25, #[.int .i64 1, .int .i64 1, .int .i64 4, .int .i64 2, .int .i64 1]), (R, 70, #[.int .i64 k1, .int .i64 c1, .int .i64 t1, .int .i64 s1, .int .i64 f1, .int .i64 l1])]) ∧ (Blk wq g1 72 #[.int .i64 0, .int .i64 0, .int .i64 0]) ∧ (Off w [(F, 43, #[.int .i64 1, .int .i64 1, .int .i64 4, .int .i64 2, .int .i64 1]), (B, 25, #[.int .i64 1, .int .i64 1, .int .i64 4, .int .i64 2, .int .i64 1]), (R, 70, #[.int .i64 k1, .int .i64 c1, .int .i64 t1, .int .i64 s1, .int .i64 f1, .int .i64 l1])] g1)))
                                  · intro hD11
                                    apply wpAnyH_dag1 (R := (fun (g2 : Nat) (wq : World) => (Bg w wq [(F, 43, #[.int .i64 1, .int .i64 1, .int .i64 4, .int .i64 2, .int .i64 1]), (B, 25, #[.int .i64 1, .int .i64 1, .int .i64 4, .int .i64 2, .int .i64 1]), (R, 70, #[.int .i64 k1, .int .i64 c1, .int .i64 t1, .int .i64 s1, .int .i64 f1, .int .i64 l1])]) ∧ (Blk wq g2 74 #[.int .i64 0, .int .i64 0, .int .i64 0]) ∧ (Off w [(F, 43, #[.int .i64 1, .int .i64 1, .int .i64 4, .int .i64 2, .int .i64 1]), (B, 25, #[.int .i64 1, .int .i64 1, .int .i64 4, .int .i64 2, .int .i64 1]), (R, 70, #[.int .i64 k1, .int .i64 c1, .int .i64 t1, .int .i64 s1, .int .i64 f1, .int .i64 l1])] g2)))
                                    · intro hD12
                                      apply wpAnyH_dag0 (R := (fun (wq : World) => (Bg w wq [(F, 43, #[.int .i64 1, .int .i64 1, .int .i64 4, .int .i64 2, .int .i64 1]), (B, 25, #[.int .i64 1, .int .i64 1, .int .i64 4, .int .i64 2, .int .i64 1]), (R, 70, #[.int .i64 k1, .int .i64 c1, .int .i64 t1, .int .i64 s1, .int .i64 f1, .int .i64 l1])])))
                                      · intro hD13
                                        apply wpAnyH_dag2 (R := (fun (g1 : Nat) (g2 : Nat) (wq : World) => (Bg w wq [(F, 43, #[.int .i64 1, .int .i64 1, .int .i64 4, .int .i64 2, .int .i64 1]), (B, 25, #[.int .i64 1, .int .i64 1, .int .i64 4, .int .i64 2, .int .i64 1]), (R, 70, #[.int .i64 k1, .int .i64 c1, .int .i64 t1, .int .i64 s1, .int .i64 f1, .int .i64 l1])]) ∧ (Blk wq g1 72 #[.int .i64 0, .int .i64 0, .int .i64 0]) ∧ (Blk wq g2 74 #[.int .i64 0, .int .i64 0, .int .i64 0]) ∧ (Off w [(F, 43, #[.int .i64 1, .int .i64 1, .int .i64 4, .int .i64 2, .int .i64 1]), (B, 25, #[.int .i64 1, .int .i64 1, .int .i64 4, .int .i64 2, .int .i64 1]), (R, 70, #[.int .i64 k1, .int .i64 c1, .int .i64 t1, .int .i64 s1, .int .i64 f1, .int .i64 l1])] g1) ∧ (Off w [(F, 43, #[.int .i64 1, .int .i64 1, .int .i64 4, .int .i64 2, .int .i64 1]), (B, 25, #[.int .i64 1, .int .i64 1, .int .i64 4, .int .i64 2, .int .i64 1]), (R, 70, #[.int .i64 k1, .int .i64 c1, .int .i64 t1, .int .i64 s1, .int .i64 f1, .int .i64 l1])] g2) ∧ (g1 ≠ g2)))
                                        · intro hD14
                                          apply wpAnyH_dag1 (R := (fun (g1 : Nat) (wq : World) => (Bg w wq [(F, 43, #[.int .i64 1, .int .i64 1, .int .i64 4, .int .i64 2, .int .i64 1]), (B, 25, #[.int .i64 1, .int .i64 1, .int .i64 4, .int .i64 2, .int .i64 1]), (R, 70, #[.int .i64 k1, .int .i64 c1, .int .i64 t1, .int .i64 s1, .int .i64 f1, .int .i64 l1])]) ∧ (Blk wq g1 72 #[.int .i64 0, .int .i64 0, .int .i64 0]) ∧ (Off w [(F, 43, #[.int .i64 1, .int .i64 1, .int .i64 4, .int .i64 2, .int .i64 1]), (B, 25, #[.int .i64 1, .int .i64 1, .int .i64 4, .int .i64 2, .int .i64 1]), (R, 70, #[.int .i64 k1, .int .i64 c1, .int .i64 t1, .int .i64 s1, .int .i64 f1, .int .i64 l1])] g1)))
                                          · intro hD15
                                            apply wpAnyH_dag1 (R := (fun (g2 : Nat) (wq : World) => (Bg w wq [(F, 43, #[.int .i64 1, .int .i64 1, .int .i64 4, .int .i64 2, .int .i64 1]), (B, 25, #[.int .i64 1, .int .i64 1, .int .i64 4, .int .i64 2, .int .i64 1]), (R, 70, #[.int .i64 k1, .int .i64 c1, .int .i64 t1, .int .i64 s1, .int .i64 f1, .int .i64 l1])]) ∧ (Blk wq g2 74 #[.int .i64 0, .int .i64 0, .int .i64 0]) ∧ (Off w [(F, 43, #[.int .i64 1, .int .i64 1, .int .i64 4, .int .i64 2, .int .i64 1]), (B, 25, #[.int .i64 1, .int .i64 1, .int .i64 4, .int .i64 2, .int .i64 1]), (R, 70, #[.int .i64 k1, .int .i64 c1, .int .i64 t1, .int .i64 s1, .int .i64 f1, .int .i64 l1])] g2)))
                                            · intro hD16
                                              refine wpAnyH_take (i := 0) (v := ?_) (by simp only [List.getElem?_toArray, List.getElem?_cons_succ, List.getElem?_cons_zero]; rfl) (by kernel_rfl) (by kernel_rfl) (by kernel_rfl) (by exact fun _ _ _ h => h) (Or.inl ⟨by rfl, ?_⟩) hHeld ?_
                                              rotate_left
                                              · intro w hSw; (try dsimp only at hSw); go_simp; (try with_reducible rfl)
                                              try simp only [Act.put, List.setIfInBounds_toArray, List.set_cons_zero, List.set_cons_succ]
                                              refine wpAnyH_take (i := 1) (v := ?_) (by simp only [List.getElem?_toArray, List.getElem?_cons_succ, List.getElem?_cons_zero]; rfl) (by kernel_rfl) (by kernel_rfl) (by kernel_rfl) (by exact fun _ _ _ h => h) (Or.inl ⟨by rfl, ?_⟩) hHeld ?_
                                              rotate_left
                                              · intro w hSw; (try dsimp only at hSw); go_simp; (try with_reducible rfl)
                                              try simp only [Act.put, List.setIfInBounds_toArray, List.set_cons_zero, List.set_cons_succ]
                                              refine wpAnyH_take (i := 3) (v := ?_) (by simp only [List.getElem?_toArray, List.getElem?_cons_succ, List.getElem?_cons_zero]; rfl) (by kernel_rfl) (by kernel_rfl) (by kernel_rfl) (by exact fun _ _ _ h => h) (Or.inl ⟨by rfl, ?_⟩) hHeld ?_
                                              rotate_left
                                              · intro w hSw; (try dsimp only at hSw); go_simp; (try with_reducible rfl)
                                              try simp only [Act.put, List.setIfInBounds_toArray, List.set_cons_zero, List.set_cons_succ]
                                              refine wpAnyH_take (i := 4) (v := ?_) (by simp only [List.getElem?_toArray, List.getElem?_cons_succ, List.getElem?_cons_zero]; rfl) (by kernel_rfl) (by kernel_rfl) (by kernel_rfl) (by exact fun _ _ _ h => h) (Or.inl ⟨by rfl, ?_⟩) hHeld ?_
                                              rotate_left
                                              · intro w hSw; (try dsimp only at hSw); go_simp; (try with_reducible rfl)
                                              try simp only [Act.put, List.setIfInBounds_toArray, List.set_cons_zero, List.set_cons_succ]
                                              refine wpAnyH_ready (rs := [2, 7, 8]) (by kernel_rfl) (by simp) ?_
                                              refine AllReadyH.cons (by simp only [List.getElem?_toArray, List.getElem?_cons_succ, List.getElem?_cons_zero]; rfl) (fun kC hkC => ?_) (AllReadyH.cons (by simp only [List.getElem?_toArray, List.getElem?_cons_succ, List.getElem?_cons_zero]; rfl) (fun kC hkC => ?_) (AllReadyH.cons (by simp only [List.getElem?_toArray, List.getElem?_cons_succ, List.getElem?_cons_zero]; rfl) (fun kC hkC => ?_) AllReadyH.nil))
                                              -- operation 2 of state 17
                                              · go_simp
                                                refine (next_any 1 1 4 2 1 k1 c1 t1 s1 f1 l1 HS1.out _).mono ?_; rw [HA.out]; unfold askV; dsimp only; rintro e3 wq ⟨rfl, hkk⟩; have hS := hS.no hkk; (try have p1 := p1.no hkk); (try have p2 := p2.no hkk); clear hkk; (try go_wp2_with fail)
                                                refine hkC.out _ _ ?_ (fun hHeld => ?_)
                                                · exact (ca_keep hS)
                                                clear hkC kC
                                                try simp only [Act.put, List.setIfInBounds_toArray, List.set_cons_zero, List.set_cons_succ]
                                                exact hD13  _ hS
                                              -- operation 7 of state 17
                                              · go_simp
                                                have o1 := hS.fresh; (try have ne12 : wq.heap.size ≠ g2 := fun e => by (have := p2.lt; omega)); have p1 := Blk.new wq #[.int .i64 0, .int .i64 0, .int .i64 0] 72; have hS := hS.no ((Keeps.refl NoS wq).alloc (.cells #[.int .i64 0, .int .i64 0, .int .i64 0] 72)); (try have p2 := p2.no ((Keeps.refl NoS wq).alloc (.cells #[.int .i64 0, .int .i64 0, .int .i64 0] 72))); obtain ⟨g1, hg1⟩ : ∃ g, wq.heap.size = g := ⟨_, rfl⟩; (try rw [hg1] at ne12); rw [hg1] at o1 p1 ⊢; clear hg1; generalize wq.alloc (.cells #[.int .i64 0, .int .i64 0, .int .i64 0] 72) = wq at *
                                                refine hkC.out _ _ ?_ (fun hHeld => ?_)
                                                · exact (ca_keep hS)
                                                clear hkC kC
                                                try simp only [Act.put, List.setIfInBounds_toArray, List.set_cons_zero, List.set_cons_succ]
                                                exact hD15 g1 _ ⟨hS, p1, o1⟩
                                              -- operation 8 of state 17
                                              · go_simp
                                                have o2 := hS.fresh; (try have ne12 : g1 ≠ wq.heap.size := fun e => by (have := p1.lt; omega)); have p2 := Blk.new wq #[.int .i64 0, .int .i64 0, .int .i64 0] 74; have hS := hS.no ((Keeps.refl NoS wq).alloc (.cells #[.int .i64 0, .int .i64 0, .int .i64 0] 74)); (try have p1 := p1.no ((Keeps.refl NoS wq).alloc (.cells #[.int .i64 0, .int .i64 0, .int .i64 0] 74))); obtain ⟨g2, hg2⟩ : ∃ g, wq.heap.size = g := ⟨_, rfl⟩; (try rw [hg2] at ne12); rw [hg2] at o2 p2 ⊢; clear hg2; generalize wq.alloc (.cells #[.int .i64 0, .int .i64 0, .int .i64 0] 74) = wq at *
                                                refine hkC.out _ _ ?_ (fun hHeld => ?_)
                                                · exact (ca_keep hS)
                                                clear hkC kC
                                                try simp only [Act.put, List.setIfInBounds_toArray, List.set_cons_zero, List.set_cons_succ]
                                                exact hD16 g2 _ ⟨hS, p2, o2⟩
                                            · intro g2 wq hR
                                              obtain ⟨hS, p2, o2⟩ := hR
                                              have hHeld : (fun w' => (w'.cell? ⟨F, 0, none⟩ = some (.int .i64 1) ∧ w'.cell? ⟨F, 1, none⟩ = some (.int .i64 1) ∧ w'.cell? ⟨F, 2, none⟩ = some (.int .i64 4) ∧ w'.cell? ⟨F, 3, none⟩ = some (.int .i64 2) ∧ w'.cell? ⟨F, 4, none⟩ = some (.int .i64 1)) ∧ (w'.cell? ⟨B, 0, none⟩ = some (.int .i64 1) ∧ w'.cell? ⟨B, 1, none⟩ = some (.int .i64 1) ∧ w'.cell? ⟨B, 2, none⟩ = some (.int .i64 4) ∧ w'.cell? ⟨B, 3, none⟩ = some (.int .i64 2) ∧ w'.cell? ⟨B, 4, none⟩ = some (.int .i64 1)) ∧ (w'.cell? ⟨R, 0, none⟩ = some (.int .i64 k1) ∧ w'.cell? ⟨R, 1, none⟩ = some (.int .i64 c1) ∧ w'.cell? ⟨R, 2, none⟩ = some (.int .i64 t1) ∧ w'.cell? ⟨R, 3, none⟩ = some (.int .i64 s1) ∧ w'.cell? ⟨R, 4, none⟩ = some (.int .i64 f1) ∧ w'.cell? ⟨R, 5, none⟩ = some (.int .i64 l1))) wq := ca_keep hS
                                              refine wpAnyH_ready (rs := [2, 7]) (by kernel_rfl) (by simp) ?_
                                              refine AllReadyH.cons (by simp only [List.getElem?_toArray, List.getElem?_cons_succ, List.getElem?_cons_zero]; rfl) (fun kC hkC => ?_) (AllReadyH.cons (by simp only [List.getElem?_toArray, List.getElem?_cons_succ, List.getElem?_cons_zero]; rfl) (fun kC hkC => ?_) AllReadyH.nil)
                                              -- operation 2 of state 16
                                              · go_simp
                                                refine (next_any 1 1 4 2 1 k1 c1 t1 s1 f1 l1 HS1.out _).mono ?_; rw [HA.out]; unfold askV; dsimp only; rintro e3 wq ⟨rfl, hkk⟩; have hS := hS.no hkk; (try have p1 := p1.no hkk); (try have p2 := p2.no hkk); clear hkk; (try go_wp2_with fail)
                                                refine hkC.out _ _ ?_ (fun hHeld => ?_)
                                                · exact (ca_keep hS)
                                                clear hkC kC
                                                try simp only [Act.put, List.setIfInBounds_toArray, List.set_cons_zero, List.set_cons_succ]
                                                exact hD12 g2 _ ⟨hS, p2, o2⟩
                                              -- operation 7 of state 16
                                              · go_simp
                                                have o1 := hS.fresh; (try have ne12 : wq.heap.size ≠ g2 := fun e => by (have := p2.lt; omega)); have p1 := Blk.new wq #[.int .i64 0, .int .i64 0, .int .i64 0] 72; have hS := hS.no ((Keeps.refl NoS wq).alloc (.cells #[.int .i64 0, .int .i64 0, .int .i64 0] 72)); (try have p2 := p2.no ((Keeps.refl NoS wq).alloc (.cells #[.int .i64 0, .int .i64 0, .int .i64 0] 72))); obtain ⟨g1, hg1⟩ : ∃ g, wq.heap.size = g := ⟨_, rfl⟩; (try rw [hg1] at ne12); rw [hg1] at o1 p1 ⊢; clear hg1; generalize wq.alloc (.cells #[.int .i64 0, .int .i64 0, .int .i64 0] 72) = wq at *
                                                refine hkC.out _ _ ?_ (fun hHeld => ?_)
                                                · exact (ca_keep hS)
                                                clear hkC kC
                                                try simp only [Act.put, List.setIfInBounds_toArray, List.set_cons_zero, List.set_cons_succ]
                                                exact hD14 g1 g2 _ ⟨hS, p1, p2, o1, o2, ne12⟩
                                          · intro g1 wq hR
                                            obtain ⟨hS, p1, o1⟩ := hR
                                            have hHeld : (fun w' => (w'.cell? ⟨F, 0, none⟩ = some (.int .i64 1) ∧ w'.cell? ⟨F, 1, none⟩ = some (.int .i64 1) ∧ w'.cell? ⟨F, 2, none⟩ = some (.int .i64 4) ∧ w'.cell? ⟨F, 3, none⟩ = some (.int .i64 2) ∧ w'.cell? ⟨F, 4, none⟩ = some (.int .i64 1)) ∧ (w'.cell? ⟨B, 0, none⟩ = some (.int .i64 1) ∧ w'.cell? ⟨B, 1, none⟩ = some (.int .i64 1) ∧ w'.cell? ⟨B, 2, none⟩ = some (.int .i64 4) ∧ w'.cell? ⟨B, 3, none⟩ = some (.int .i64 2) ∧ w'.cell? ⟨B, 4, none⟩ = some (.int .i64 1)) ∧ (w'.cell? ⟨R, 0, none⟩ = some (.int .i64 k1) ∧ w'.cell? ⟨R, 1, none⟩ = some (.int .i64 c1) ∧ w'.cell? ⟨R, 2, none⟩ = some (.int .i64 t1) ∧ w'.cell? ⟨R, 3, none⟩ = some (.int .i64 s1) ∧ w'.cell? ⟨R, 4, none⟩ = some (.int .i64 f1) ∧ w'.cell? ⟨R, 5, none⟩ = some (.int .i64 l1))) wq := ca_keep hS
                                            refine wpAnyH_ready (rs := [2, 8]) (by kernel_rfl) (by simp) ?_
                                            refine AllReadyH.cons (by simp only [List.getElem?_toArray, List.getElem?_cons_succ, List.getElem?_cons_zero]; rfl) (fun kC hkC => ?_) (AllReadyH.cons (by simp only [List.getElem?_toArray, List.getElem?_cons_succ, List.getElem?_cons_zero]; rfl) (fun kC hkC => ?_) AllReadyH.nil)
                                            -- operation 2 of state 15
                                            · go_simp
                                              refine (next_any 1 1 4 2 1 k1 c1 t1 s1 f1 l1 HS1.out _).mono ?_; rw [HA.out]; unfold askV; dsimp only; rintro e3 wq ⟨rfl, hkk⟩; have hS := hS.no hkk; (try have p1 := p1.no hkk); (try have p2 := p2.no hkk); clear hkk; (try go_wp2_with fail)
                                              refine hkC.out _ _ ?_ (fun hHeld => ?_)
                                              · exact (ca_keep hS)
                                              clear hkC kC
                                              try simp only [Act.put, List.setIfInBounds_toArray, List.set_cons_zero, List.set_cons_succ]
                                              exact hD11 g1 _ ⟨hS, p1, o1⟩
                                            -- operation 8 of state 15
                                            · go_simp
                                              have o2 := hS.fresh; (try have ne12 : g1 ≠ wq.heap.size := fun e => by (have := p1.lt; omega)); have p2 := Blk.new wq #[.int .i64 0, .int .i64 0, .int .i64 0] 74; have hS := hS.no ((Keeps.refl NoS wq).alloc (.cells #[.int .i64 0, .int .i64 0, .int .i64 0] 74)); (try have p1 := p1.no ((Keeps.refl NoS wq).alloc (.cells #[.int .i64 0, .int .i64 0, .int .i64 0] 74))); obtain ⟨g2, hg2⟩ : ∃ g, wq.heap.size = g := ⟨_, rfl⟩; (try rw [hg2] at ne12); rw [hg2] at o2 p2 ⊢; clear hg2; generalize wq.alloc (.cells #[.int .i64 0, .int .i64 0, .int .i64 0] 74) = wq at *
                                              refine hkC.out _ _ ?_ (fun hHeld => ?_)
                                              · exact (ca_keep hS)
                                              clear hkC kC
                                              try simp only [Act.put, List.setIfInBounds_toArray, List.set_cons_zero, List.set_cons_succ]
                                              exact hD14 g1 g2 _ ⟨hS, p1, p2, o1, o2, ne12⟩
                                        · intro g1 g2 wq hR
                                          obtain ⟨hS, p1, p2, o1, o2, ne12⟩ := hR
                                          have hHeld : (fun w' => (w'.cell? ⟨F, 0, none⟩ = some (.int .i64 1) ∧ w'.cell? ⟨F, 1, none⟩ = some (.int .i64 1) ∧ w'.cell? ⟨F, 2, none⟩ = some (.int .i64 4) ∧ w'.cell? ⟨F, 3, none⟩ = some (.int .i64 2) ∧ w'.cell? ⟨F, 4, none⟩ = some (.int .i64 1)) ∧ (w'.cell? ⟨B, 0, none⟩ = some (.int .i64 1) ∧ w'.cell? ⟨B, 1, none⟩ = some (.int .i64 1) ∧ w'.cell? ⟨B, 2, none⟩ = some (.int .i64 4) ∧ w'.cell? ⟨B, 3, none⟩ = some (.int .i64 2) ∧ w'.cell? ⟨B, 4, none⟩ = some (.int .i64 1)) ∧ (w'.cell? ⟨R, 0, none⟩ = some (.int .i64 k1) ∧ w'.cell? ⟨R, 1, none⟩ = some (.int .i64 c1) ∧ w'.cell? ⟨R, 2, none⟩ = some (.int .i64 t1) ∧ w'.cell? ⟨R, 3, none⟩ = some (.int .i64 s1) ∧ w'.cell? ⟨R, 4, none⟩ = some (.int .i64 f1) ∧ w'.cell? ⟨R, 5, none⟩ = some (.int .i64 l1))) wq := ca_keep hS
                                          refine wpAnyH_ready (rs := [2]) (by kernel_rfl) (by simp) ?_
                                          refine AllReadyH.cons (by simp only [List.getElem?_toArray, List.getElem?_cons_succ, List.getElem?_cons_zero]; rfl) (fun kC hkC => ?_) AllReadyH.nil
                                          -- operation 2 of state 14
                                          · go_simp
                                            refine (next_any 1 1 4 2 1 k1 c1 t1 s1 f1 l1 HS1.out _).mono ?_; rw [HA.out]; unfold askV; dsimp only; rintro e3 wq ⟨rfl, hkk⟩; have hS := hS.no hkk; (try have p1 := p1.no hkk); (try have p2 := p2.no hkk); clear hkk; (try go_wp2_with fail)
                                            refine hkC.out _ _ ?_ (fun hHeld => ?_)
                                            · exact (ca_keep hS)
                                            clear hkC kC
                                            try simp only [Act.put, List.setIfInBounds_toArray, List.set_cons_zero, List.set_cons_succ]
                                            exact hD10 g1 g2 _ ⟨hS, p1, p2, o1, o2, ne12⟩
                                      · intro wq hR
                                        have hS := hR
                                        have hHeld : (fun w' => (w'.cell? ⟨F, 0, none⟩ = some (.int .i64 1) ∧ w'.cell? ⟨F, 1, none⟩ = some (.int .i64 1) ∧ w'.cell? ⟨F, 2, none⟩ = some (.int .i64 4) ∧ w'.cell? ⟨F, 3, none⟩ = some (.int .i64 2) ∧ w'.cell? ⟨F, 4, none⟩ = some (.int .i64 1)) ∧ (w'.cell? ⟨B, 0, none⟩ = some (.int .i64 1) ∧ w'.cell? ⟨B, 1, none⟩ = some (.int .i64 1) ∧ w'.cell? ⟨B, 2, none⟩ = some (.int .i64 4) ∧ w'.cell? ⟨B, 3, none⟩ = some (.int .i64 2) ∧ w'.cell? ⟨B, 4, none⟩ = some (.int .i64 1)) ∧ (w'.cell? ⟨R, 0, none⟩ = some (.int .i64 k1) ∧ w'.cell? ⟨R, 1, none⟩ = some (.int .i64 c1) ∧ w'.cell? ⟨R, 2, none⟩ = some (.int .i64 t1) ∧ w'.cell? ⟨R, 3, none⟩ = some (.int .i64 s1) ∧ w'.cell? ⟨R, 4, none⟩ = some (.int .i64 f1) ∧ w'.cell? ⟨R, 5, none⟩ = some (.int .i64 l1))) wq := ca_keep hS
                                        refine wpAnyH_ready (rs := [5, 7, 8]) (by kernel_rfl) (by simp) ?_
                                        refine AllReadyH.cons (by simp only [List.getElem?_toArray, List.getElem?_cons_succ, List.getElem?_cons_zero]; rfl) (fun kC hkC => ?_) (AllReadyH.cons (by simp only [List.getElem?_toArray, List.getElem?_cons_succ, List.getElem?_cons_zero]; rfl) (fun kC hkC => ?_) (AllReadyH.cons (by simp only [List.getElem?_toArray, List.getElem?_cons_succ, List.getElem?_cons_zero]; rfl) (fun kC hkC => ?_) AllReadyH.nil))
                                        -- operation 5 of state 13
                                        · go_simp
                                          refine (flat_any k1 c1 t1 s1 f1 l1 _).mono ?_; rintro e3 wq ⟨rfl, hkk⟩; have hS := hS.no hkk; (try have p1 := p1.no hkk); (try have p2 := p2.no hkk); clear hkk; (try go_wp2_with fail)
                                          refine hkC.out _ _ ?_ (fun hHeld => ?_)
                                          · exact (ca_keep hS)
                                          clear hkC kC
                                          try simp only [Act.put, List.setIfInBounds_toArray, List.set_cons_zero, List.set_cons_succ]
                                          exact hD9  _ hS
                                        -- operation 7 of state 13
                                        · go_simp
                                          have o1 := hS.fresh; (try have ne12 : wq.heap.size ≠ g2 := fun e => by (have := p2.lt; omega)); have p1 := Blk.new wq #[.int .i64 0, .int .i64 0, .int .i64 0] 72; have hS := hS.no ((Keeps.refl NoS wq).alloc (.cells #[.int .i64 0, .int .i64 0, .int .i64 0] 72)); (try have p2 := p2.no ((Keeps.refl NoS wq).alloc (.cells #[.int .i64 0, .int .i64 0, .int .i64 0] 72))); obtain ⟨g1, hg1⟩ : ∃ g, wq.heap.size = g := ⟨_, rfl⟩; (try rw [hg1] at ne12); rw [hg1] at o1 p1 ⊢; clear hg1; generalize wq.alloc (.cells #[.int .i64 0, .int .i64 0, .int .i64 0] 72) = wq at *
                                          refine hkC.out _ _ ?_ (fun hHeld => ?_)
                                          · exact (ca_keep hS)
                                          clear hkC kC
                                          try simp only [Act.put, List.setIfInBounds_toArray, List.set_cons_zero, List.set_cons_succ]
                                          exact hD11 g1 _ ⟨hS, p1, o1⟩
                                        -- operation 8 of state 13
                                        · go_simp
                                          have o2 := hS.fresh; (try have ne12 : g1 ≠ wq.heap.size := fun e => by (have := p1.lt; omega)); have p2 := Blk.new wq #[.int .i64 0, .int .i64 0, .int .i64 0] 74; have hS := hS.no ((Keeps.refl NoS wq).alloc (.cells #[.int .i64 0, .int .i64 0, .int .i64 0] 74)); (try have p1 := p1.no ((Keeps.refl NoS wq).alloc (.cells #[.int .i64 0, .int .i64 0, .int .i64 0] 74))); obtain ⟨g2, hg2⟩ : ∃ g, wq.heap.size = g := ⟨_, rfl⟩; (try rw [hg2] at ne12); rw [hg2] at o2 p2 ⊢; clear hg2; generalize wq.alloc (.cells #[.int .i64 0, .int .i64 0, .int .i64 0] 74) = wq at *
                                          refine hkC.out _ _ ?_ (fun hHeld => ?_)
                                          · exact (ca_keep hS)
                                          clear hkC kC
                                          try simp only [Act.put, List.setIfInBounds_toArray, List.set_cons_zero, List.set_cons_succ]
                                          exact hD12 g2 _ ⟨hS, p2, o2⟩
                                    · intro g2 wq hR
                                      obtain ⟨hS, p2, o2⟩ := hR
                                      have hHeld : (fun w' => (w'.cell? ⟨F, 0, none⟩ = some (.int .i64 1) ∧ w'.cell? ⟨F, 1, none⟩ = some (.int .i64 1) ∧ w'.cell? ⟨F, 2, none⟩ = some (.int .i64 4) ∧ w'.cell? ⟨F, 3, none⟩ = some (.int .i64 2) ∧ w'.cell? ⟨F, 4, none⟩ = some (.int .i64 1)) ∧ (w'.cell? ⟨B, 0, none⟩ = some (.int .i64 1) ∧ w'.cell? ⟨B, 1, none⟩ = some (.int .i64 1) ∧ w'.cell? ⟨B, 2, none⟩ = some (.int .i64 4) ∧ w'.cell? ⟨B, 3, none⟩ = some (.int .i64 2) ∧ w'.cell? ⟨B, 4, none⟩ = some (.int .i64 1)) ∧ (w'.cell? ⟨R, 0, none⟩ = some (.int .i64 k1) ∧ w'.cell? ⟨R, 1, none⟩ = some (.int .i64 c1) ∧ w'.cell? ⟨R, 2, none⟩ = some (.int .i64 t1) ∧ w'.cell? ⟨R, 3, none⟩ = some (.int .i64 s1) ∧ w'.cell? ⟨R, 4, none⟩ = some (.int .i64 f1) ∧ w'.cell? ⟨R, 5, none⟩ = some (.int .i64 l1))) wq := ca_keep hS
                                      refine wpAnyH_ready (rs := [5, 7]) (by kernel_rfl) (by simp) ?_
                                      refine AllReadyH.cons (by simp only [List.getElem?_toArray, List.getElem?_cons_succ, List.getElem?_cons_zero]; rfl) (fun kC hkC => ?_) (AllReadyH.cons (by simp only [List.getElem?_toArray, List.getElem?_cons_succ, List.getElem?_cons_zero]; rfl) (fun kC hkC => ?_) AllReadyH.nil)
                                      -- operation 5 of state 12
                                      · go_simp
                                        refine (flat_any k1 c1 t1 s1 f1 l1 _).mono ?_; rintro e3 wq ⟨rfl, hkk⟩; have hS := hS.no hkk; (try have p1 := p1.no hkk); (try have p2 := p2.no hkk); clear hkk; (try go_wp2_with fail)
                                        refine hkC.out _ _ ?_ (fun hHeld => ?_)
                                        · exact (ca_keep hS)
                                        clear hkC kC
                                        try simp only [Act.put, List.setIfInBounds_toArray, List.set_cons_zero, List.set_cons_succ]
                                        exact hD8 g2 _ ⟨hS, p2, o2⟩
                                      -- operation 7 of state 12
                                      · go_simp
                                        have o1 := hS.fresh; (try have ne12 : wq.heap.size ≠ g2 := fun e => by (have := p2.lt; omega)); have p1 := Blk.new wq #[.int .i64 0, .int .i64 0, .int .i64 0] 72; have hS := hS.no ((Keeps.refl NoS wq).alloc (.cells #[.int .i64 0, .int .i64 0, .int .i64 0] 72)); (try have p2 := p2.no ((Keeps.refl NoS wq).alloc (.cells #[.int .i64 0, .int .i64 0, .int .i64 0] 72))); obtain ⟨g1, hg1⟩ : ∃ g, wq.heap.size = g := ⟨_, rfl⟩; (try rw [hg1] at ne12); rw [hg1] at o1 p1 ⊢; clear hg1; generalize wq.alloc (.cells #[.int .i64 0, .int .i64 0, .int .i64 0] 72) = wq at *
                                        refine hkC.out _ _ ?_ (fun hHeld => ?_)
                                        · exact (ca_keep hS)
                                        clear hkC kC
                                        try simp only [Act.put, List.setIfInBounds_toArray, List.set_cons_zero, List.set_cons_succ]
                                        exact hD10 g1 g2 _ ⟨hS, p1, p2, o1, o2, ne12⟩
                                  · intro g1 wq hR
                                    obtain ⟨hS, p1, o1⟩ := hR
                                    have hHeld : (fun w' => (w'.cell? ⟨F, 0, none⟩ = some (.int .i64 1) ∧ w'.cell? ⟨F, 1, none⟩ = some (.int .i64 1) ∧ w'.cell? ⟨F, 2, none⟩ = some (.int .i64 4) ∧ w'.cell? ⟨F, 3, none⟩ = some (.int .i64 2) ∧ w'.cell? ⟨F, 4, none⟩ = some (.int .i64 1)) ∧ (w'.cell? ⟨B, 0, none⟩ = some (.int .i64 1) ∧ w'.cell? ⟨B, 1, none⟩ = some (.int .i64 1) ∧ w'.cell? ⟨B, 2, none⟩ = some (.int .i64 4) ∧ w'.cell? ⟨B, 3, none⟩ = some (.int .i64 2) ∧ w'.cell? ⟨B, 4, none⟩ = some (.int .i64 1)) ∧ (w'.cell? ⟨R, 0, none⟩ = some (.int .i64 k1) ∧ w'.cell? ⟨R, 1, none⟩ = some (.int .i64 c1) ∧ w'.cell? ⟨R, 2, none⟩ = some (.int .i64 t1) ∧ w'.cell? ⟨R, 3, none⟩ = some (.int .i64 s1) ∧ w'.cell? ⟨R, 4, none⟩ = some (.int .i64 f1) ∧ w'.cell? ⟨R, 5, none⟩ = some (.int .i64 l1))) wq := ca_keep hS
                                    refine wpAnyH_ready (rs := [5, 8]) (by kernel_rfl) (by simp) ?_
                                    refine AllReadyH.cons (by simp only [List.getElem?_toArray, List.getElem?_cons_succ, List.getElem?_cons_zero]; rfl) (fun kC hkC => ?_) (AllReadyH.cons (by simp only [List.getElem?_toArray, List.getElem?_cons_succ, List.getElem?_cons_zero]; rfl) (fun kC hkC => ?_) AllReadyH.nil)
                                    -- operation 5 of state 11
                                    · go_simp
                                      refine (flat_any k1 c1 t1 s1 f1 l1 _).mono ?_; rintro e3 wq ⟨rfl, hkk⟩; have hS := hS.no hkk; (try have p1 := p1.no hkk); (try have p2 := p2.no hkk); clear hkk; (try go_wp2_with fail)
                                      refine hkC.out _ _ ?_ (fun hHeld => ?_)
                                      · exact (ca_keep hS)
                                      clear hkC kC
                                      try simp only [Act.put, List.setIfInBounds_toArray, List.set_cons_zero, List.set_cons_succ]
                                      exact hD7 g1 _ ⟨hS, p1, o1⟩
                                    -- operation 8 of state 11
                                    · go_simp
                                      have o2 := hS.fresh; (try have ne12 : g1 ≠ wq.heap.size := fun e => by (have := p1.lt; omega)); have p2 := Blk.new wq #[.int .i64 0, .int .i64 0, .int .i64 0] 74; have hS := hS.no ((Keeps.refl NoS wq).alloc (.cells #[.int .i64 0, .int .i64 0, .int .i64 0] 74)); (try have p1 := p1.no ((Keeps.refl NoS wq).alloc (.cells #[.int .i64 0, .int .i64 0, .int .i64 0] 74))); obtain ⟨g2, hg2⟩ : ∃ g, wq.heap.size = g := ⟨_, rfl⟩; (try rw [hg2] at ne12); rw [hg2] at o2 p2 ⊢; clear hg2; generalize wq.alloc (.cells #[.int .i64 0, .int .i64 0, .int .i64 0] 74) = wq at *
                                      refine hkC.out _ _ ?_ (fun hHeld => ?_)
                                      · exact (ca_keep hS)
                                      clear hkC kC
                                      try simp only [Act.put, List.setIfInBounds_toArray, List.set_cons_zero, List.set_cons_succ]
                                      exact hD10 g1 g2 _ ⟨hS, p1, p2, o1, o2, ne12⟩
                                · intro g1 g2 wq hR
                                  obtain ⟨hS, p1, p2, o1, o2, ne12⟩ := hR
                                  have hHeld : (fun w' => (w'.cell? ⟨F, 0, none⟩ = some (.int .i64 1) ∧ w'.cell? ⟨F, 1, none⟩ = some (.int .i64 1) ∧ w'.cell? ⟨F, 2, none⟩ = some (.int .i64 4) ∧ w'.cell? ⟨F, 3, none⟩ = some (.int .i64 2) ∧ w'.cell? ⟨F, 4, none⟩ = some (.int .i64 1)) ∧ (w'.cell? ⟨B, 0, none⟩ = some (.int .i64 1) ∧ w'.cell? ⟨B, 1, none⟩ = some (.int .i64 1) ∧ w'.cell? ⟨B, 2, none⟩ = some (.int .i64 4) ∧ w'.cell? ⟨B, 3, none⟩ = some (.int .i64 2) ∧ w'.cell? ⟨B, 4, none⟩ = some (.int .i64 1)) ∧ (w'.cell? ⟨R, 0, none⟩ = some (.int .i64 k1) ∧ w'.cell? ⟨R, 1, none⟩ = some (.int .i64 c1) ∧ w'.cell? ⟨R, 2, none⟩ = some (.int .i64 t1) ∧ w'.cell? ⟨R, 3, none⟩ = some (.int .i64 s1) ∧ w'.cell? ⟨R, 4, none⟩ = some (.int .i64 f1) ∧ w'.cell? ⟨R, 5, none⟩ = some (.int .i64 l1))) wq := ca_keep hS
                                  refine wpAnyH_ready (rs := [5]) (by kernel_rfl) (by simp) ?_
                                  refine AllReadyH.cons (by simp only [List.getElem?_toArray, List.getElem?_cons_succ, List.getElem?_cons_zero]; rfl) (fun kC hkC => ?_) AllReadyH.nil
                                  -- operation 5 of state 10
                                  · go_simp
                                    refine (flat_any k1 c1 t1 s1 f1 l1 _).mono ?_; rintro e3 wq ⟨rfl, hkk⟩; have hS := hS.no hkk; (try have p1 := p1.no hkk); (try have p2 := p2.no hkk); clear hkk; (try go_wp2_with fail)
                                    refine hkC.out _ _ ?_ (fun hHeld => ?_)
                                    · exact (ca_keep hS)
                                    clear hkC kC
                                    try simp only [Act.put, List.setIfInBounds_toArray, List.set_cons_zero, List.set_cons_succ]
                                    exact hD6 g1 g2 _ ⟨hS, p1, p2, o1, o2, ne12⟩
                              · intro wq hR
                                have hS := hR
                                have hHeld : (fun w' => (w'.cell? ⟨F, 0, none⟩ = some (.int .i64 1) ∧ w'.cell? ⟨F, 1, none⟩ = some (.int .i64 1) ∧ w'.cell? ⟨F, 2, none⟩ = some (.int .i64 4) ∧ w'.cell? ⟨F, 3, none⟩ = some (.int .i64 2) ∧ w'.cell? ⟨F, 4, none⟩ = some (.int .i64 1)) ∧ (w'.cell? ⟨B, 0, none⟩ = some (.int .i64 1) ∧ w'.cell? ⟨B, 1, none⟩ = some (.int .i64 1) ∧ w'.cell? ⟨B, 2, none⟩ = some (.int .i64 4) ∧ w'.cell? ⟨B, 3, none⟩ = some (.int .i64 2) ∧ w'.cell? ⟨B, 4, none⟩ = some (.int .i64 1)) ∧ (w'.cell? ⟨R, 0, none⟩ = some (.int .i64 k1) ∧ w'.cell? ⟨R, 1, none⟩ = some (.int .i64 c1) ∧ w'.cell? ⟨R, 2, none⟩ = some (.int .i64 t1) ∧ w'.cell? ⟨R, 3, none⟩ = some (.int .i64 s1) ∧ w'.cell? ⟨R, 4, none⟩ = some (.int .i64 f1) ∧ w'.cell? ⟨R, 5, none⟩ = some (.int .i64 l1))) wq := ca_keep hS
                                refine wpAnyH_ready (rs := [6, 7, 8]) (by kernel_rfl) (by simp) ?_
                                refine AllReadyH.cons (by simp only [List.getElem?_toArray, List.getElem?_cons_succ, List.getElem?_cons_zero]; rfl) (fun kC hkC => ?_) (AllReadyH.cons (by simp only [List.getElem?_toArray, List.getElem?_cons_succ, List.getElem?_cons_zero]; rfl) (fun kC hkC => ?_) (AllReadyH.cons (by simp only [List.getElem?_toArray, List.getElem?_cons_succ, List.getElem?_cons_zero]; rfl) (fun kC hkC => ?_) AllReadyH.nil))
                                -- operation 6 of state 9
                                · go_simp
                                  refine (rnext_any k1 c1 t1 s1 f1 l1 HS1.out _).mono ?_; rw [HA.out]; unfold askV; dsimp only; rintro e3 wq ⟨rfl, hkk⟩; have hS := hS.no hkk; (try have p1 := p1.no hkk); (try have p2 := p2.no hkk); clear hkk; (try go_wp2_with fail)
                                  refine hkC.out _ _ ?_ (fun hHeld => ?_)
                                  · exact (ca_keep hS)
                                  clear hkC kC
                                  try simp only [Act.put, List.setIfInBounds_toArray, List.set_cons_zero, List.set_cons_succ]
                                  exact hD5  _ hS
                                -- operation 7 of state 9
                                · go_simp
                                  have o1 := hS.fresh; (try have ne12 : wq.heap.size ≠ g2 := fun e => by (have := p2.lt; omega)); have p1 := Blk.new wq #[.int .i64 0, .int .i64 0, .int .i64 0] 72; have hS := hS.no ((Keeps.refl NoS wq).alloc (.cells #[.int .i64 0, .int .i64 0, .int .i64 0] 72)); (try have p2 := p2.no ((Keeps.refl NoS wq).alloc (.cells #[.int .i64 0, .int .i64 0, .int .i64 0] 72))); obtain ⟨g1, hg1⟩ : ∃ g, wq.heap.size = g := ⟨_, rfl⟩; (try rw [hg1] at ne12); rw [hg1] at o1 p1 ⊢; clear hg1; generalize wq.alloc (.cells #[.int .i64 0, .int .i64 0, .int .i64 0] 72) = wq at *
                                  refine hkC.out _ _ ?_ (fun hHeld => ?_)
                                  · exact (ca_keep hS)
                                  clear hkC kC
                                  try simp only [Act.put, List.setIfInBounds_toArray, List.set_cons_zero, List.set_cons_succ]
                                  exact hD7 g1 _ ⟨hS, p1, o1⟩
                                -- operation 8 of state 9
                                · go_simp
                                  have o2 := hS.fresh; (try have ne12 : g1 ≠ wq.heap.size := fun e => by (have := p1.lt; omega)); have p2 := Blk.new wq #[.int .i64 0, .int .i64 0, .int .i64 0] 74; have hS := hS.no ((Keeps.refl NoS wq).alloc (.cells #[.int .i64 0, .int .i64 0, .int .i64 0] 74)); (try have p1 := p1.no ((Keeps.refl NoS wq).alloc (.cells #[.int .i64 0, .int .i64 0, .int .i64 0] 74))); obtain ⟨g2, hg2⟩ : ∃ g, wq.heap.size = g := ⟨_, rfl⟩; (try rw [hg2] at ne12); rw [hg2] at o2 p2 ⊢; clear hg2; generalize wq.alloc (.cells #[.int .i64 0, .int .i64 0, .int .i64 0] 74) = wq at *
                                  refine hkC.out _ _ ?_ (fun hHeld => ?_)
                                  · exact (ca_keep hS)
                                  clear hkC kC
                                  try simp only [Act.put, List.setIfInBounds_toArray, List.set_cons_zero, List.set_cons_succ]
                                  exact hD8 g2 _ ⟨hS, p2, o2⟩
                            · intro g2 wq hR
                              obtain ⟨hS, p2, o2⟩ := hR
                              have hHeld : (fun w' => (w'.cell? ⟨F, 0, none⟩ = some (.int .i64 1) ∧ w'.cell? ⟨F, 1, none⟩ = some (.int .i64 1) ∧ w'.cell? ⟨F, 2, none⟩ = some (.int .i64 4) ∧ w'.cell? ⟨F, 3, none⟩ = some (.int .i64 2) ∧ w'.cell? ⟨F, 4, none⟩ = some (.int .i64 1)) ∧ (w'.cell? ⟨B, 0, none⟩ = some (.int .i64 1) ∧ w'.cell? ⟨B, 1, none⟩ = some (.int .i64 1) ∧ w'.cell? ⟨B, 2, none⟩ = some (.int .i64 4) ∧ w'.cell? ⟨B, 3, none⟩ = some (.int .i64 2) ∧ w'.cell? ⟨B, 4, none⟩ = some (.int .i64 1)) ∧ (w'.cell? ⟨R, 0, none⟩ = some (.int .i64 k1) ∧ w'.cell? ⟨R, 1, none⟩ = some (.int .i64 c1) ∧ w'.cell? ⟨R, 2, none⟩ = some (.int .i64 t1) ∧ w'.cell? ⟨R, 3, none⟩ = some (.int .i64 s1) ∧ w'.cell? ⟨R, 4, none⟩ = some (.int .i64 f1) ∧ w'.cell? ⟨R, 5, none⟩ = some (.int .i64 l1))) wq := ca_keep hS
                              refine wpAnyH_ready (rs := [6, 7]) (by kernel_rfl) (by simp) ?_
                              refine AllReadyH.cons (by simp only [List.getElem?_toArray, List.getElem?_cons_succ, List.getElem?_cons_zero]; rfl) (fun kC hkC => ?_) (AllReadyH.cons (by simp only [List.getElem?_toArray, List.getElem?_cons_succ, List.getElem?_cons_zero]; rfl) (fun kC hkC => ?_) AllReadyH.nil)
                              -- operation 6 of state 8
                              · go_simp
                                refine (rnext_any k1 c1 t1 s1 f1 l1 HS1.out _).mono ?_; rw [HA.out]; unfold askV; dsimp only; rintro e3 wq ⟨rfl, hkk⟩; have hS := hS.no hkk; (try have p1 := p1.no hkk); (try have p2 := p2.no hkk); clear hkk; (try go_wp2_with fail)
                                refine hkC.out _ _ ?_ (fun hHeld => ?_)
                                · exact (ca_keep hS)
                                clear hkC kC
                                try simp only [Act.put, List.setIfInBounds_toArray, List.set_cons_zero, List.set_cons_succ]
                                exact hD4 g2 _ ⟨hS, p2, o2⟩
                              -- operation 7 of state 8
                              · go_simp
                                have o1 := hS.fresh; (try have ne12 : wq.heap.size ≠ g2 := fun e => by (have := p2.lt; omega)); have p1 := Blk.new wq #[.int .i64 0, .int .i64 0, .int .i64 0] 72; have hS := hS.no ((Keeps.refl NoS wq).alloc (.cells #[.int .i64 0, .int .i64 0, .int .i64 0] 72)); (try have p2 := p2.no ((Keeps.refl NoS wq).alloc (.cells #[.int .i64 0, .int .i64 0, .int .i64 0] 72))); obtain ⟨g1, hg1⟩ : ∃ g, wq.heap.size = g := ⟨_, rfl⟩; (try rw [hg1] at ne12); rw [hg1] at o1 p1 ⊢; clear hg1; generalize wq.alloc (.cells #[.int .i64 0, .int .i64 0, .int .i64 0] 72) = wq at *
                                refine hkC.out _ _ ?_ (fun hHeld => ?_)
                                · exact (ca_keep hS)
                                clear hkC kC
                                try simp only [Act.put, List.setIfInBounds_toArray, List.set_cons_zero, List.set_cons_succ]
                                exact hD6 g1 g2 _ ⟨hS, p1, p2, o1, o2, ne12⟩
                          · intro g1 wq hR
                            obtain ⟨hS, p1, o1⟩ := hR
                            have hHeld : (fun w' => (w'.cell? ⟨F, 0, none⟩ = some (.int .i64 1) ∧ w'.cell? ⟨F, 1, none⟩ = some (.int .i64 1) ∧ w'.cell? ⟨F, 2, none⟩ = some (.int .i64 4) ∧ w'.cell? ⟨F, 3, none⟩ = some (.int .i64 2) ∧ w'.cell? ⟨F, 4, none⟩ = some (.int .i64 1)) ∧ (w'.cell? ⟨B, 0, none⟩ = some (.int .i64 1) ∧ w'.cell? ⟨B, 1, none⟩ = some (.int .i64 1) ∧ w'.cell? ⟨B, 2, none⟩ = some (.int .i64 4) ∧ w'.cell? ⟨B, 3, none⟩ = some (.int .i64 2) ∧ w'.cell? ⟨B, 4, none⟩ = some (.int .i64 1)) ∧ (w'.cell? ⟨R, 0, none⟩ = some (.int .i64 k1) ∧ w'.cell? ⟨R, 1, none⟩ = some (.int .i64 c1) ∧ w'.cell? ⟨R, 2, none⟩ = some (.int .i64 t1) ∧ w'.cell? ⟨R, 3, none⟩ = some (.int .i64 s1) ∧ w'.cell? ⟨R, 4, none⟩ = some (.int .i64 f1) ∧ w'.cell? ⟨R, 5, none⟩ = some (.int .i64 l1))) wq := ca_keep hS
                            refine wpAnyH_ready (rs := [6, 8]) (by kernel_rfl) (by simp) ?_
                            refine AllReadyH.cons (by simp only [List.getElem?_toArray, List.getElem?_cons_succ, List.getElem?_cons_zero]; rfl) (fun kC hkC => ?_) (AllReadyH.cons (by simp only [List.getElem?_toArray, List.getElem?_cons_succ, List.getElem?_cons_zero]; rfl) (fun kC hkC => ?_) AllReadyH.nil)
                            -- operation 6 of state 7
                            · go_simp
                              refine (rnext_any k1 c1 t1 s1 f1 l1 HS1.out _).mono ?_; rw [HA.out]; unfold askV; dsimp only; rintro e3 wq ⟨rfl, hkk⟩; have hS := hS.no hkk; (try have p1 := p1.no hkk); (try have p2 := p2.no hkk); clear hkk; (try go_wp2_with fail)
                              refine hkC.out _ _ ?_ (fun hHeld => ?_)
                              · exact (ca_keep hS)
                              clear hkC kC
                              try simp only [Act.put, List.setIfInBounds_toArray, List.set_cons_zero, List.set_cons_succ]
                              exact hD3 g1 _ ⟨hS, p1, o1⟩
                            -- operation 8 of state 7
                            · go_simp
                              have o2 := hS.fresh; (try have ne12 : g1 ≠ wq.heap.size := fun e => by (have := p1.lt; omega)); have p2 := Blk.new wq #[.int .i64 0, .int .i64 0, .int .i64 0] 74; have hS := hS.no ((Keeps.refl NoS wq).alloc (.cells #[.int .i64 0, .int .i64 0, .int .i64 0] 74)); (try have p1 := p1.no ((Keeps.refl NoS wq).alloc (.cells #[.int .i64 0, .int .i64 0, .int .i64 0] 74))); obtain ⟨g2, hg2⟩ : ∃ g, wq.heap.size = g := ⟨_, rfl⟩; (try rw [hg2] at ne12); rw [hg2] at o2 p2 ⊢; clear hg2; generalize wq.alloc (.cells #[.int .i64 0, .int .i64 0, .int .i64 0] 74) = wq at *
                              refine hkC.out _ _ ?_ (fun hHeld => ?_)
                              · exact (ca_keep hS)
                              clear hkC kC
                              try simp only [Act.put, List.setIfInBounds_toArray, List.set_cons_zero, List.set_cons_succ]
                              exact hD6 g1 g2 _ ⟨hS, p1, p2, o1, o2, ne12⟩
                        · intro g1 g2 wq hR
                          obtain ⟨hS, p1, p2, o1, o2, ne12⟩ := hR
                          have hHeld : (fun w' => (w'.cell? ⟨F, 0, none⟩ = some (.int .i64 1) ∧ w'.cell? ⟨F, 1, none⟩ = some (.int .i64 1) ∧ w'.cell? ⟨F, 2, none⟩ = some (.int .i64 4) ∧ w'.cell? ⟨F, 3, none⟩ = some (.int .i64 2) ∧ w'.cell? ⟨F, 4, none⟩ = some (.int .i64 1)) ∧ (w'.cell? ⟨B, 0, none⟩ = some (.int .i64 1) ∧ w'.cell? ⟨B, 1, none⟩ = some (.int .i64 1) ∧ w'.cell? ⟨B, 2, none⟩ = some (.int .i64 4) ∧ w'.cell? ⟨B, 3, none⟩ = some (.int .i64 2) ∧ w'.cell? ⟨B, 4, none⟩ = some (.int .i64 1)) ∧ (w'.cell? ⟨R, 0, none⟩ = some (.int .i64 k1) ∧ w'.cell? ⟨R, 1, none⟩ = some (.int .i64 c1) ∧ w'.cell? ⟨R, 2, none⟩ = some (.int .i64 t1) ∧ w'.cell? ⟨R, 3, none⟩ = some (.int .i64 s1) ∧ w'.cell? ⟨R, 4, none⟩ = some (.int .i64 f1) ∧ w'.cell? ⟨R, 5, none⟩ = some (.int .i64 l1))) wq := ca_keep hS
                          refine wpAnyH_ready (rs := [6]) (by kernel_rfl) (by simp) ?_
                          refine AllReadyH.cons (by simp only [List.getElem?_toArray, List.getElem?_cons_succ, List.getElem?_cons_zero]; rfl) (fun kC hkC => ?_) AllReadyH.nil
                          -- operation 6 of state 6
                          · go_simp
                            refine (rnext_any k1 c1 t1 s1 f1 l1 HS1.out _).mono ?_; rw [HA.out]; unfold askV; dsimp only; rintro e3 wq ⟨rfl, hkk⟩; have hS := hS.no hkk; (try have p1 := p1.no hkk); (try have p2 := p2.no hkk); clear hkk; (try go_wp2_with fail)
                            refine hkC.out _ _ ?_ (fun hHeld => ?_)
                            · exact (ca_keep hS)
                            clear hkC kC
                            try simp only [Act.put, List.setIfInBounds_toArray, List.set_cons_zero, List.set_cons_succ]
                            exact hD2 g1 g2 _ ⟨hS, p1, p2, o1, o2, ne12⟩
                      · intro wq hR
                        have hS := hR
                        have hHeld : (fun w' => (w'.cell? ⟨F, 0, none⟩ = some (.int .i64 1) ∧ w'.cell? ⟨F, 1, none⟩ = some (.int .i64 1) ∧ w'.cell? ⟨F, 2, none⟩ = some (.int .i64 4) ∧ w'.cell? ⟨F, 3, none⟩ = some (.int .i64 2) ∧ w'.cell? ⟨F, 4, none⟩ = some (.int .i64 1)) ∧ (w'.cell? ⟨B, 0, none⟩ = some (.int .i64 1) ∧ w'.cell? ⟨B, 1, none⟩ = some (.int .i64 1) ∧ w'.cell? ⟨B, 2, none⟩ = some (.int .i64 4) ∧ w'.cell? ⟨B, 3, none⟩ = some (.int .i64 2) ∧ w'.cell? ⟨B, 4, none⟩ = some (.int .i64 1)) ∧ (w'.cell? ⟨R, 0, none⟩ = some (.int .i64 k1) ∧ w'.cell? ⟨R, 1, none⟩ = some (.int .i64 c1) ∧ w'.cell? ⟨R, 2, none⟩ = some (.int .i64 t1) ∧ w'.cell? ⟨R, 3, none⟩ = some (.int .i64 s1) ∧ w'.cell? ⟨R, 4, none⟩ = some (.int .i64 f1) ∧ w'.cell? ⟨R, 5, none⟩ = some (.int .i64 l1))) wq := ca_keep hS
                        refine wpAnyH_ready (rs := [7, 8]) (by kernel_rfl) (by simp) ?_
                        refine AllReadyH.cons (by simp only [List.getElem?_toArray, List.getElem?_cons_succ, List.getElem?_cons_zero]; rfl) (fun kC hkC => ?_) (AllReadyH.cons (by simp only [List.getElem?_toArray, List.getElem?_cons_succ, List.getElem?_cons_zero]; rfl) (fun kC hkC => ?_) AllReadyH.nil)
                        -- operation 7 of state 5
                        · go_simp
                          have o1 := hS.fresh; (try have ne12 : wq.heap.size ≠ g2 := fun e => by (have := p2.lt; omega)); have p1 := Blk.new wq #[.int .i64 0, .int .i64 0, .int .i64 0] 72; have hS := hS.no ((Keeps.refl NoS wq).alloc (.cells #[.int .i64 0, .int .i64 0, .int .i64 0] 72)); (try have p2 := p2.no ((Keeps.refl NoS wq).alloc (.cells #[.int .i64 0, .int .i64 0, .int .i64 0] 72))); obtain ⟨g1, hg1⟩ : ∃ g, wq.heap.size = g := ⟨_, rfl⟩; (try rw [hg1] at ne12); rw [hg1] at o1 p1 ⊢; clear hg1; generalize wq.alloc (.cells #[.int .i64 0, .int .i64 0, .int .i64 0] 72) = wq at *
                          refine hkC.out _ _ ?_ (fun hHeld => ?_)
                          · exact (ca_keep hS)
                          clear hkC kC
                          try simp only [Act.put, List.setIfInBounds_toArray, List.set_cons_zero, List.set_cons_succ]
                          exact hD3 g1 _ ⟨hS, p1, o1⟩
                        -- operation 8 of state 5
                        · go_simp
                          have o2 := hS.fresh; (try have ne12 : g1 ≠ wq.heap.size := fun e => by (have := p1.lt; omega)); have p2 := Blk.new wq #[.int .i64 0, .int .i64 0, .int .i64 0] 74; have hS := hS.no ((Keeps.refl NoS wq).alloc (.cells #[.int .i64 0, .int .i64 0, .int .i64 0] 74)); (try have p1 := p1.no ((Keeps.refl NoS wq).alloc (.cells #[.int .i64 0, .int .i64 0, .int .i64 0] 74))); obtain ⟨g2, hg2⟩ : ∃ g, wq.heap.size = g := ⟨_, rfl⟩; (try rw [hg2] at ne12); rw [hg2] at o2 p2 ⊢; clear hg2; generalize wq.alloc (.cells #[.int .i64 0, .int .i64 0, .int .i64 0] 74) = wq at *
                          refine hkC.out _ _ ?_ (fun hHeld => ?_)
                          · exact (ca_keep hS)
                          clear hkC kC
                          try simp only [Act.put, List.setIfInBounds_toArray, List.set_cons_zero, List.set_cons_succ]
                          exact hD4 g2 _ ⟨hS, p2, o2⟩
                    · intro g2 wq hR
                      obtain ⟨hS, p2, o2⟩ := hR
                      have hHeld : (fun w' => (w'.cell? ⟨F, 0, none⟩ = some (.int .i64 1) ∧ w'.cell? ⟨F, 1, none⟩ = some (.int .i64 1) ∧ w'.cell? ⟨F, 2, none⟩ = some (.int .i64 4) ∧ w'.cell? ⟨F, 3, none⟩ = some (.int .i64 2) ∧ w'.cell? ⟨F, 4, none⟩ = some (.int .i64 1)) ∧ (w'.cell? ⟨B, 0, none⟩ = some (.int .i64 1) ∧ w'.cell? ⟨B, 1, none⟩ = some (.int .i64 1) ∧ w'.cell? ⟨B, 2, none⟩ = some (.int .i64 4) ∧ w'.cell? ⟨B, 3, none⟩ = some (.int .i64 2) ∧ w'.cell? ⟨B, 4, none⟩ = some (.int .i64 1)) ∧ (w'.cell? ⟨R, 0, none⟩ = some (.int .i64 k1) ∧ w'.cell? ⟨R, 1, none⟩ = some (.int .i64 c1) ∧ w'.cell? ⟨R, 2, none⟩ = some (.int .i64 t1) ∧ w'.cell? ⟨R, 3, none⟩ = some (.int .i64 s1) ∧ w'.cell? ⟨R, 4, none⟩ = some (.int .i64 f1) ∧ w'.cell? ⟨R, 5, none⟩ = some (.int .i64 l1))) wq := ca_keep hS
                      refine wpAnyH_ready (rs := [7]) (by kernel_rfl) (by simp) ?_
                      refine AllReadyH.cons (by simp only [List.getElem?_toArray, List.getElem?_cons_succ, List.getElem?_cons_zero]; rfl) (fun kC hkC => ?_) AllReadyH.nil
                      -- operation 7 of state 4
                      · go_simp
                        have o1 := hS.fresh; (try have ne12 : wq.heap.size ≠ g2 := fun e => by (have := p2.lt; omega)); have p1 := Blk.new wq #[.int .i64 0, .int .i64 0, .int .i64 0] 72; have hS := hS.no ((Keeps.refl NoS wq).alloc (.cells #[.int .i64 0, .int .i64 0, .int .i64 0] 72)); (try have p2 := p2.no ((Keeps.refl NoS wq).alloc (.cells #[.int .i64 0, .int .i64 0, .int .i64 0] 72))); obtain ⟨g1, hg1⟩ : ∃ g, wq.heap.size = g := ⟨_, rfl⟩; (try rw [hg1] at ne12); rw [hg1] at o1 p1 ⊢; clear hg1; generalize wq.alloc (.cells #[.int .i64 0, .int .i64 0, .int .i64 0] 72) = wq at *
                        refine hkC.out _ _ ?_ (fun hHeld => ?_)
                        · exact (ca_keep hS)
                        clear hkC kC
                        try simp only [Act.put, List.setIfInBounds_toArray, List.set_cons_zero, List.set_cons_succ]
                        exact hD2 g1 g2 _ ⟨hS, p1, p2, o1, o2, ne12⟩
                  · intro g1 wq hR
                    obtain ⟨hS, p1, o1⟩ := hR
                    have hHeld : (fun w' => (w'.cell? ⟨F, 0, none⟩ = some (.int .i64 1) ∧ w'.cell? ⟨F, 1, none⟩ = some (.int .i64 1) ∧ w'.cell? ⟨F, 2, none⟩ = some (.int .i64 4) ∧ w'.cell? ⟨F, 3, none⟩ = some (.int .i64 2) ∧ w'.cell? ⟨F, 4, none⟩ = some (.int .i64 1)) ∧ (w'.cell? ⟨B, 0, none⟩ = some (.int .i64 1) ∧ w'.cell? ⟨B, 1, none⟩ = some (.int .i64 1) ∧ w'.cell? ⟨B, 2, none⟩ = some (.int .i64 4) ∧ w'.cell? ⟨B, 3, none⟩ = some (.int .i64 2) ∧ w'.cell? ⟨B, 4, none⟩ = some (.int .i64 1)) ∧ (w'.cell? ⟨R, 0, none⟩ = some (.int .i64 k1) ∧ w'.cell? ⟨R, 1, none⟩ = some (.int .i64 c1) ∧ w'.cell? ⟨R, 2, none⟩ = some (.int .i64 t1) ∧ w'.cell? ⟨R, 3, none⟩ = some (.int .i64 s1) ∧ w'.cell? ⟨R, 4, none⟩ = some (.int .i64 f1) ∧ w'.cell? ⟨R, 5, none⟩ = some (.int .i64 l1))) wq := ca_keep hS
                    refine wpAnyH_ready (rs := [8]) (by kernel_rfl) (by simp) ?_
                    refine AllReadyH.cons (by simp only [List.getElem?_toArray, List.getElem?_cons_succ, List.getElem?_cons_zero]; rfl) (fun kC hkC => ?_) AllReadyH.nil
                    -- operation 8 of state 3
                    · go_simp
                      have o2 := hS.fresh; (try have ne12 : g1 ≠ wq.heap.size := fun e => by (have := p1.lt; omega)); have p2 := Blk.new wq #[.int .i64 0, .int .i64 0, .int .i64 0] 74; have hS := hS.no ((Keeps.refl NoS wq).alloc (.cells #[.int .i64 0, .int .i64 0, .int .i64 0] 74)); (try have p1 := p1.no ((Keeps.refl NoS wq).alloc (.cells #[.int .i64 0, .int .i64 0, .int .i64 0] 74))); obtain ⟨g2, hg2⟩ : ∃ g, wq.heap.size = g := ⟨_, rfl⟩; (try rw [hg2] at ne12); rw [hg2] at o2 p2 ⊢; clear hg2; generalize wq.alloc (.cells #[.int .i64 0, .int .i64 0, .int .i64 0] 74) = wq at *
                      refine hkC.out _ _ ?_ (fun hHeld => ?_)
                      · exact (ca_keep hS)
                      clear hkC kC
                      try simp only [Act.put, List.setIfInBounds_toArray, List.set_cons_zero, List.set_cons_succ]
                      exact hD2 g1 g2 _ ⟨hS, p1, p2, o1, o2, ne12⟩
                · intro g1 g2 wq hR
                  obtain ⟨hS, p1, p2, o1, o2, ne12⟩ := hR
                  have hHeld : (fun w' => (w'.cell? ⟨F, 0, none⟩ = some (.int .i64 1) ∧ w'.cell? ⟨F, 1, none⟩ = some (.int .i64 1) ∧ w'.cell? ⟨F, 2, none⟩ = some (.int .i64 4) ∧ w'.cell? ⟨F, 3, none⟩ = some (.int .i64 2) ∧ w'.cell? ⟨F, 4, none⟩ = some (.int .i64 1)) ∧ (w'.cell? ⟨B, 0, none⟩ = some (.int .i64 1) ∧ w'.cell? ⟨B, 1, none⟩ = some (.int .i64 1) ∧ w'.cell? ⟨B, 2, none⟩ = some (.int .i64 4) ∧ w'.cell? ⟨B, 3, none⟩ = some (.int .i64 2) ∧ w'.cell? ⟨B, 4, none⟩ = some (.int .i64 1)) ∧ (w'.cell? ⟨R, 0, none⟩ = some (.int .i64 k1) ∧ w'.cell? ⟨R, 1, none⟩ = some (.int .i64 c1) ∧ w'.cell? ⟨R, 2, none⟩ = some (.int .i64 t1) ∧ w'.cell? ⟨R, 3, none⟩ = some (.int .i64 s1) ∧ w'.cell? ⟨R, 4, none⟩ = some (.int .i64 f1) ∧ w'.cell? ⟨R, 5, none⟩ = some (.int .i64 l1))) wq := ca_keep hS
                  refine wpAnyH_ready (rs := [9]) (by kernel_rfl) (by simp) ?_
                  refine AllReadyH.cons (by simp only [List.getElem?_toArray, List.getElem?_cons_succ, List.getElem?_cons_zero]; rfl) (fun kC hkC => ?_) AllReadyH.nil
                  -- operation 9 of state 2
                  · obtain ⟨y0, y1, y2⟩ := p1.cells3; have yf0 := p1.free 0; have yf1 := p1.free 1; have yf2 := p1.free 2; go_simp; have hS := hS.far o1 (kput3 g1 (.int .i64 ak) (.int .i64 aa) (.int .i64 av)); have p2 := p2.far (kput3 g1 (.int .i64 ak) (.int .i64 aa) (.int .i64 av)) ne12.symm; have p1 := p1.put3 (.int .i64 ak) (.int .i64 aa) (.int .i64 av); generalize (((wq.setCell ⟨g1, 0, none⟩ (.int .i64 ak)).setCell ⟨g1, 1, none⟩ (.int .i64 aa)).setCell ⟨g1, 2, none⟩ (.int .i64 av)) = wq at *; clear y0 yf0 y1 yf1 y2 yf2
                    refine hkC.out _ _ ?_ (fun hHeld => ?_)
                    · exact (ca_keep hS)
                    clear hkC kC
                    try simp only [Act.put, List.setIfInBounds_toArray, List.set_cons_zero, List.set_cons_succ]
                    exact hD1 g1 g2 _ ⟨hS, p1, p2, o1, o2, ne12⟩
              · intro g1 g2 wq hR
                obtain ⟨hS, p1, p2, o1, o2, ne12⟩ := hR
                have hHeld : (fun w' => (w'.cell? ⟨F, 0, none⟩ = some (.int .i64 1) ∧ w'.cell? ⟨F, 1, none⟩ = some (.int .i64 1) ∧ w'.cell? ⟨F, 2, none⟩ = some (.int .i64 4) ∧ w'.cell? ⟨F, 3, none⟩ = some (.int .i64 2) ∧ w'.cell? ⟨F, 4, none⟩ = some (.int .i64 1)) ∧ (w'.cell? ⟨B, 0, none⟩ = some (.int .i64 1) ∧ w'.cell? ⟨B, 1, none⟩ = some (.int .i64 1) ∧ w'.cell? ⟨B, 2, none⟩ = some (.int .i64 4) ∧ w'.cell? ⟨B, 3, none⟩ = some (.int .i64 2) ∧ w'.cell? ⟨B, 4, none⟩ = some (.int .i64 1)) ∧ (w'.cell? ⟨R, 0, none⟩ = some (.int .i64 k1) ∧ w'.cell? ⟨R, 1, none⟩ = some (.int .i64 c1) ∧ w'.cell? ⟨R, 2, none⟩ = some (.int .i64 t1) ∧ w'.cell? ⟨R, 3, none⟩ = some (.int .i64 s1) ∧ w'.cell? ⟨R, 4, none⟩ = some (.int .i64 f1) ∧ w'.cell? ⟨R, 5, none⟩ = some (.int .i64 l1))) wq := ca_keep hS
                refine wpAnyH_ready (rs := [10]) (by kernel_rfl) (by simp) ?_
                refine AllReadyH.cons (by simp only [List.getElem?_toArray, List.getElem?_cons_succ, List.getElem?_cons_zero]; rfl) (fun kC hkC => ?_) AllReadyH.nil
                -- operation 10 of state 1
                · obtain ⟨y0, y1, y2⟩ := p2.cells3; have yf0 := p2.free 0; have yf1 := p2.free 1; have yf2 := p2.free 2; go_simp; have hS := hS.far o2 (kput3 g2 (.int .i64 ak) (.int .i64 aa) (.int .i64 av)); have p1 := p1.far (kput3 g2 (.int .i64 ak) (.int .i64 aa) (.int .i64 av)) ne12; have p2 := p2.put3 (.int .i64 ak) (.int .i64 aa) (.int .i64 av); generalize (((wq.setCell ⟨g2, 0, none⟩ (.int .i64 ak)).setCell ⟨g2, 1, none⟩ (.int .i64 aa)).setCell ⟨g2, 2, none⟩ (.int .i64 av)) = wq at *; clear y0 yf0 y1 yf1 y2 yf2
                  refine hkC.out _ _ ?_ (fun hHeld => ?_)
                  · exact (ca_keep hS)
                  clear hkC kC
                  try simp only [Act.put, List.setIfInBounds_toArray, List.set_cons_zero, List.set_cons_succ]
                  exact hD0 g1 g2 _ ⟨hS, p1, p2, o1, o2, ne12⟩
            intro g1 g2 wq hR
            obtain ⟨hS, p1, p2, o1, o2, ne12⟩ := hR
            refine wpAnyH_done (by kernel_rfl) ?_ _
            go_wp2_with fail
            go_meet
            exact ⟨g1, g2, rfl, rfl, (hS.push o1.1 p1).push o2.1 p2⟩
          case rest =>
            clear HS HA
            obtain ⟨g1, g2, rfl, rfl, hS⟩ := hcut
            have HS := Lib.hid hS
            clear hS
            go_upto_region 11 with fail
            go_cut [13, 14] (fun p1 p2 wx => ∃ g3 g4 : Nat, p1 = .pointer (some ⟨g3, 0, none⟩) ∧ p2 = .pointer (some ⟨g4, 0, none⟩) ∧ Bg w wx ((g4, 76, #[.int .i64 xk, .int .i64 xc, .int .i64 xt, .int .i64 xs, .int .i64 xf, .int .i64 xl]) :: (g3, 70, #[.int .i64 xk, .int .i64 xc, .int .i64 xt, .int .i64 xs, .int .i64 xf, .int .i64 xl]) :: ((g2, 74, #[.int .i64 ak, .int .i64 aa, .int .i64 av]) :: (g1, 72, #[.int .i64 ak, .int .i64 aa, .int .i64 av]) :: [(F, 43, #[.int .i64 1, .int .i64 1, .int .i64 4, .int .i64 2, .int .i64 1]), (B, 25, #[.int .i64 1, .int .i64 1, .int .i64 4, .int .i64 2, .int .i64 1]), (R, 70, #[.int .i64 k1, .int .i64 c1, .int .i64 t1, .int .i64 s1, .int .i64 f1, .int .i64 l1])])))
            case first =>
              have hS := HS.out.no ((Keeps.refl NoS _).drew)
              clear HS
              refine wp_region_held_drew (S := (fun w' => (w'.cell? ⟨F, 0, none⟩ = some (.int .i64 1) ∧ w'.cell? ⟨F, 1, none⟩ = some (.int .i64 1) ∧ w'.cell? ⟨F, 2, none⟩ = some (.int .i64 4) ∧ w'.cell? ⟨F, 3, none⟩ = some (.int .i64 2) ∧ w'.cell? ⟨F, 4, none⟩ = some (.int .i64 1)) ∧ (w'.cell? ⟨B, 0, none⟩ = some (.int .i64 1) ∧ w'.cell? ⟨B, 1, none⟩ = some (.int .i64 1) ∧ w'.cell? ⟨B, 2, none⟩ = some (.int .i64 4) ∧ w'.cell? ⟨B, 3, none⟩ = some (.int .i64 2) ∧ w'.cell? ⟨B, 4, none⟩ = some (.int .i64 1)) ∧ (w'.cell? ⟨R, 0, none⟩ = some (.int .i64 k1) ∧ w'.cell? ⟨R, 1, none⟩ = some (.int .i64 c1) ∧ w'.cell? ⟨R, 2, none⟩ = some (.int .i64 t1) ∧ w'.cell? ⟨R, 3, none⟩ = some (.int .i64 s1) ∧ w'.cell? ⟨R, 4, none⟩ = some (.int .i64 f1) ∧ w'.cell? ⟨R, 5, none⟩ = some (.int .i64 l1)))) (by kernel_rfl) (ca_keep hS.tl.tl) (fun hHeld => ?_)
              generalize wc.drew = wq at *
              apply wpAnyH_dag2 (R := (fun (g3 : Nat) (g4 : Nat) (wq : World) => (Bg w wq ((g2, 74, #[.int .i64 ak, .int .i64 aa, .int .i64 av]) :: (g1, 72, #[.int .i64 ak, .int .i64 aa, .int .i64 av]) :: [(F, 43, #[.int .i64 1, .int .i64 1, .int .i64 4, .int .i64 2, .int .i64 1]), (B, 25, #[.int .i64 1, .int .i64 1, .int .i64 4, .int .i64 2, .int .i64 1]), (R, 70, #[.int .i64 k1, .int .i64 c1, .int .i64 t1, .int .i64 s1, .int .i64 f1, .int .i64 l1])])) ∧ (Blk wq g3 70 #[.int .i64 xk, .int .i64 xc, .int .i64 xt, .int .i64 xs, .int .i64 xf, .int .i64 xl]) ∧ (Blk wq g4 76 #[.int .i64 xk, .int .i64 xc, .int .i64 xt, .int .i64 xs, .int .i64 xf, .int .i64 xl]) ∧ (Off w ((g2, 74, #[.int .i64 ak, .int .i64 aa, .int .i64 av]) :: (g1, 72, #[.int .i64 ak, .int .i64 aa, .int .i64 av]) :: [(F, 43, #[.int .i64 1, .int .i64 1, .int .i64 4, .int .i64 2, .int .i64 1]), (B, 25, #[.int .i64 1, .int .i64 1, .int .i64 4, .int .i64 2, .int .i64 1]), (R, 70, #[.int .i64 k1, .int .i64 c1, .int .i64 t1, .int .i64 s1, .int .i64 f1, .int .i64 l1])]) g3) ∧ (Off w ((g2, 74, #[.int .i64 ak, .int .i64 aa, .int .i64 av]) :: (g1, 72, #[.int .i64 ak, .int .i64 aa, .int .i64 av]) :: [(F, 43, #[.int .i64 1, .int .i64 1, .int .i64 4, .int .i64 2, .int .i64 1]), (B, 25, #[.int .i64 1, .int .i64 1, .int .i64 4, .int .i64 2, .int .i64 1]), (R, 70, #[.int .i64 k1, .int .i64 c1, .int .i64 t1, .int .i64 s1, .int .i64 f1, .int .i64 l1])]) g4) ∧ (g3 ≠ g4)))
              · intro hD0
                apply wpAnyH_dag2 (R := (fun (g3 : Nat) (g4 : Nat) (wq : World) => (Bg w wq ((g2, 74, #[.int .i64 ak, .int .i64 aa, .int .i64 av]) :: (g1, 72, #[.int .i64 ak, .int .i64 aa, .int .i64 av]) :: [(F, 43, #[.int .i64 1, .int .i64 1, .int .i64 4, .int .i64 2, .int .i64 1]), (B, 25, #[.int .i64 1, .int .i64 1, .int .i64 4, .int .i64 2, .int .i64 1]), (R, 70, #[.int .i64 k1, .int .i64 c1, .int .i64 t1, .int .i64 s1, .int .i64 f1, .int .i64 l1])])) ∧ (Blk wq g3 70 #[.int .i64 xk, .int .i64 xc, .int .i64 xt, .int .i64 xs, .int .i64 xf, .int .i64 xl]) ∧ (Blk wq g4 76 #[.int .i64 0, .int .i64 0, .int .i64 0, .int .i64 0, .int .i64 0, .int .i64 0]) ∧ (Off w ((g2, 74, #[.int .i64 ak, .int .i64 aa, .int .i64 av]) :: (g1, 72, #[.int .i64 ak, .int .i64 aa, .int .i64 av]) :: [(F, 43, #[.int .i64 1, .int .i64 1, .int .i64 4, .int .i64 2, .int .i64 1]), (B, 25, #[.int .i64 1, .int .i64 1, .int .i64 4, .int .i64 2, .int .i64 1]), (R, 70, #[.int .i64 k1, .int .i64 c1, .int .i64 t1, .int .i64 s1, .int .i64 f1, .int .i64 l1])]) g3) ∧ (Off w ((g2, 74, #[.int .i64 ak, .int .i64 aa, .int .i64 av]) :: (g1, 72, #[.int .i64 ak, .int .i64 aa, .int .i64 av]) :: [(F, 43, #[.int .i64 1, .int .i64 1, .int .i64 4, .int .i64 2, .int .i64 1]), (B, 25, #[.int .i64 1, .int .i64 1, .int .i64 4, .int .i64 2, .int .i64 1]), (R, 70, #[.int .i64 k1, .int .i64 c1, .int .i64 t1, .int .i64 s1, .int .i64 f1, .int .i64 l1])]) g4) ∧ (g3 ≠ g4)))
                · intro hD1
                  apply wpAnyH_dag2 (R := (fun (g3 : Nat) (g4 : Nat) (wq : World) => (Bg w wq ((g2, 74, #[.int .i64 ak, .int .i64 aa, .int .i64 av]) :: (g1, 72, #[.int .i64 ak, .int .i64 aa, .int .i64 av]) :: [(F, 43, #[.int .i64 1, .int .i64 1, .int .i64 4, .int .i64 2, .int .i64 1]), (B, 25, #[.int .i64 1, .int .i64 1, .int .i64 4, .int .i64 2, .int .i64 1]), (R, 70, #[.int .i64 k1, .int .i64 c1, .int .i64 t1, .int .i64 s1, .int .i64 f1, .int .i64 l1])])) ∧ (Blk wq g3 70 #[.int .i64 0, .int .i64 0, .int .i64 0, .int .i64 0, .int .i64 0, .int .i64 0]) ∧ (Blk wq g4 76 #[.int .i64 0, .int .i64 0, .int .i64 0, .int .i64 0, .int .i64 0, .int .i64 0]) ∧ (Off w ((g2, 74, #[.int .i64 ak, .int .i64 aa, .int .i64 av]) :: (g1, 72, #[.int .i64 ak, .int .i64 aa, .int .i64 av]) :: [(F, 43, #[.int .i64 1, .int .i64 1, .int .i64 4, .int .i64 2, .int .i64 1]), (B, 25, #[.int .i64 1, .int .i64 1, .int .i64 4, .int .i64 2, .int .i64 1]), (R, 70, #[.int .i64 k1, .int .i64 c1, .int .i64 t1, .int .i64 s1, .int .i64 f1, .int .i64 l1])]) g3) ∧ (Off w ((g2, 74, #[.int .i64 ak, .int .i64 aa, .int .i64 av]) :: (g1, 72, #[.int .i64 ak, .int .i64 aa, .int .i64 av]) :: [(F, 43, #[.int .i64 1, .int .i64 1, .int .i64 4, .int .i64 2, .int .i64 1]), (B, 25, #[.int .i64 1, .int .i64 1, .int .i64 4, .int .i64 2, .int .i64 1]), (R, 70, #[.int .i64 k1, .int .i64 c1, .int .i64 t1, .int .i64 s1, .int .i64 f1, .int .i64 l1])]) g4) ∧ (g3 ≠ g4)))
                  · intro hD2
                    apply wpAnyH_dag1 (R := (fun (g3 : Nat) (wq : World) => (Bg w wq ((g2, 74, #[.int .i64 ak, .int .i64 aa, .int .i64 av]) :: (g1, 72, #[.int .i64 ak, .int .i64 aa, .int .i64 av]) :: [(F, 43, #[.int .i64 1, .int .i64 1, .int .i64 4, .int .i64 2, .int .i64 1]), (B, 25, #[.int .i64 1, .int .i64 1, .int .i64 4, .int .i64 2, .int .i64 1]), (R, 70, #[.int .i64 k1, .int .i64 c1, .int .i64 t1, .int .i64 s1, .int .i64 f1, .int .i64 l1])])) ∧ (Blk wq g3 70 #[.int .i64 0, .int .i64 0, .int .i64 0, .int .i64 0, .int .i64 0, .int .i64 0]) ∧ (Off w ((g2, 74, #[.int .i64 ak, .int .i64 aa, .int .i64 av]) :: (g1, 72, #[.int .i64 ak, .int .i64 aa, .int .i64 av]) :: [(F, 43, #[.int .i64 1, .int .i64 1, .int .i64 4, .int .i64 2, .int .i64 1]), (B, 25, #[.int .i64 1, .int .i64 1, .int .i64 4, .int .i64 2, .int .i64 1]), (R, 70, #[.int .i64 k1, .int .i64 c1, .int .i64 t1, .int .i64 s1, .int .i64 f1, .int .i64 l1])]) g3)))
                    · intro hD3
                      apply wpAnyH_dag1 (R := (fun (g4 : Nat) (wq : World) => (Bg w wq ((g2, 74, #[.int .i64 ak, .int .i64 aa, .int .i64 av]) :: (g1, 72, #[.int .i64 ak, .int .i64 aa, .int .i64 av]) :: [(F, 43, #[.int .i64 1, .int .i64 1, .int .i64 4, .int .i64 2, .int .i64 1]), (B, 25, #[.int .i64 1, .int .i64 1, .int .i64 4, .int .i64 2, .int .i64 1]), (R, 70, #[.int .i64 k1, .int .i64 c1, .int .i64 t1, .int .i64 s1, .int .i64 f1, .int .i64 l1])])) ∧ (Blk wq g4 76 #[.int .i64 0, .int .i64 0, .int .i64 0, .int .i64 0, .int .i64 0, .int .i64 0]) ∧ (Off w ((g2, 74, #[.int .i64 ak, .int .i64 aa, .int .i64 av]) :: (g1, 72, #[.int .i64 ak, .int .i64 aa, .int .i64 av]) :: [(F, 43, #[.int .i64 1, .int .i64 1, .int .i64 4, .int .i64 2, .int .i64 1]), (B, 25, #[.int .i64 1, .int .i64 1, .int .i64 4, .int .i64 2, .int .i64 1]), (R, 70, #[.int .i64 k1, .int .i64 c1, .int .i64 t1, .int .i64 s1, .int .i64 f1, .int .i64 l1])]) g4)))
                      · intro hD4
                        apply wpAnyH_dag0 (R := (fun (wq : World) => (Bg w wq ((g2, 74, #[.int .i64 ak, .int .i64 aa, .int .i64 av]) :: (g1, 72, #[.int .i64 ak, .int .i64 aa, .int .i64 av]) :: [(F, 43, #[.int .i64 1, .int .i64 1, .int .i64 4, .int .i64 2, .int .i64 1]), (B, 25, #[.int .i64 1, .int .i64 1, .int .i64 4, .int .i64 2, .int .i64 1]), (R, 70, #[.int .i64 k1, .int .i64 c1, .int .i64 t1, .int .i64 s1, .int .i64 f1, .int .i64 l1])]))))
                        · intro hD5
                          apply wpAnyH_dag2 (R := (fun (g3 : Nat) (g4 : Nat) (wq : World) => (Bg w wq ((g2, 74, #[.int .i64 ak, .int .i64 aa, .int .i64 av]) :: (g1, 72, #[.int .i64 ak, .int .i64 aa, .int .i64 av]) :: [(F, 43, #[.int .i64 1, .int .i64 1, .int .i64 4, .int .i64 2, .int .i64 1]), (B, 25, #[.int .i64 1, .int .i64 1, .int .i64 4, .int .i64 2, .int .i64 1]), (R, 70, #[.int .i64 k1, .int .i64 c1, .int .i64 t1, .int .i64 s1, .int .i64 f1, .int .i64 l1])])) ∧ (Blk wq g3 70 #[.int .i64 0, .int .i64 0, .int .i64 0, .int .i64 0, .int .i64 0, .int .i64 0]) ∧ (Blk wq g4 76 #[.int .i64 0, .int .i64 0, .int .i64 0, .int .i64 0, .int .i64 0, .int .i64 0]) ∧ (Off w ((g2, 74, #[.int .i64 ak, .int .i64 aa, .int .i64 av]) :: (g1, 72, #[.int .i64 ak, .int .i64 aa, .int .i64 av]) :: [(F, 43, #[.int .i64 1, .int .i64 1, .int .i64 4, .int .i64 2, .int .i64 1]), (B, 25, #[.int .i64 1, .int .i64 1, .int .i64 4, .int .i64 2, .int .i64 1]), (R, 70, #[.int .i64 k1, .int .i64 c1, .int .i64 t1, .int .i64 s1, .int .i64 f1, .int .i64 l1])]) g3) ∧ (Off w ((g2, 74, #[.int .i64 ak, .int .i64 aa, .int .i64 av]) :: (g1, 72, #[.int .i64 ak, .int .i64 aa, .int .i64 av]) :: [(F, 43, #[.int .i64 1, .int .i64 1, .int .i64 4, .int .i64 2, .int .i64 1]), (B, 25, #[.int .i64 1, .int .i64 1, .int .i64 4, .int .i64 2, .int .i64 1]), (R, 70, #[.int .i64 k1, .int .i64 c1, .int .i64 t1, .int .i64 s1, .int .i64 f1, .int .i64 l1])]) g4) ∧ (g3 ≠ g4)))
                          · intro hD6
                            apply wpAnyH_dag1 (R := (fun (g3 : Nat) (wq : World) => (Bg w wq ((g2, 74, #[.int .i64 ak, .int .i64 aa, .int .i64 av]) :: (g1, 72, #[.int .i64 ak, .int .i64 aa, .int .i64 av]) :: [(F, 43, #[.int .i64 1, .int .i64 1, .int .i64 4, .int .i64 2, .int .i64 1]), (B, 25, #[.int .i64 1, .int .i64 1, .int .i64 4, .int .i64 2, .int .i64 1]), (R, 70, #[.int .i64 k1, .int .i64 c1, .int .i64 t1, .int .i64 s1, .int .i64 f1, .int .i64 l1])])) ∧ (Blk wq g3 70 #[.int .i64 0, .int .i64 0, .int .i64 0, .int .i64 0, .int .i64 0, .int .i64 0]) ∧ (Off w ((g2, 74, #[.int .i64 ak, .int .i64 aa, .int .i64 av]) :: (g1, 72, #[.int .i64 ak, .int .i64 aa, .int .i64 av]) :: [(F, 43, #[.int .i64 1, .int .i64 1, .int .i64 4, .int .i64 2, .int .i64 1]), (B, 25, #[.int .i64 1, .int .i64 1, .int .i64 4, .int .i64 2, .int .i64 1]), (R, 70, #[.int .i64 k1, .int .i64 c1, .int .i64 t1, .int .i64 s1, .int .i64 f1, .int .i64 l1])]) g3)))
                            · intro hD7
                              apply wpAnyH_dag1 (R := (fun (g4 : Nat) (wq : World) => (Bg w wq ((g2, 74, #[.int .i64 ak, .int .i64 aa, .int .i64 av]) :: (g1, 72, #[.int .i64 ak, .int .i64 aa, .int .i64 av]) :: [(F, 43, #[.int .i64 1, .int .i64 1, .int .i64 4, .int .i64 2, .int .i64 1]), (B, 25, #[.int .i64 1, .int .i64 1, .int .i64 4, .int .i64 2, .int .i64 1]), (R, 70, #[.int .i64 k1, .int .i64 c1, .int .i64 t1, .int .i64 s1, .int .i64 f1, .int .i64 l1])])) ∧ (Blk wq g4 76 #[.int .i64 0, .int .i64 0, .int .i64 0, .int .i64 0, .int .i64 0, .int .i64 0]) ∧ (Off w ((g2, 74, #[.int .i64 ak, .int .i64 aa, .int .i64 av]) :: (g1, 72, #[.int .i64 ak, .int .i64 aa, .int .i64 av]) :: [(F, 43, #[.int .i64 1, .int .i64 1, .int .i64 4, .int .i64 2, .int .i64 1]), (B, 25, #[.int .i64 1, .int .i64 1, .int .i64 4, .int .i64 2, .int .i64 1]), (R, 70, #[.int .i64 k1, .int .i64 c1, .int .i64 t1, .int .i64 s1, .int .i64 f1, .int .i64 l1])]) g4)))
                              · intro hD8
                                apply wpAnyH_dag0 (R := (fun (wq : World) => (Bg w wq ((g2, 74, #[.int .i64 ak, .int .i64 aa, .int .i64 av]) :: (g1, 72, #[.int .i64 ak, .int .i64 aa, .int .i64 av]) :: [(F, 43, #[.int .i64 1, .int .i64 1, .int .i64 4, .int .i64 2, .int .i64 1]), (B, 25, #[.int .i64 1, .int .i64 1, .int .i64 4, .int .i64 2, .int .i64 1]), (R, 70, #[.int .i64 k1, .int .i64 c1, .int .i64 t1, .int .i64 s1, .int .i64 f1, .int .i64 l1])]))))
                                · intro hD9
                                  apply wpAnyH_dag2 (R := (fun (g3 : Nat) (g4 : Nat) (wq : World) => (Bg w wq ((g2, 74, #[.int .i64 ak, .int .i64 aa, .int .i64 av]) :: (g1, 72, #[.int .i64 ak, .int .i64 aa, .int .i64 av]) :: [(F, 43, #[.int .i64 1, .int .i64 1, .int .i64 4, .int .i64 2, .int .i64 1]), (B, 25, #[.int .i64 1, .int .i64 1, .int .i64 4, .int .i64 2, .int .i64 1]), (R, 70, #[.int .i64 k1, .int .i64 c1, .int .i64 t1, .int .i64 s1, .int .i64 f1, .int .i64 l1])])) ∧ (Blk wq g3 70 #[.int .i64 0, .int .i64 0, .int .i64 0, .int .i64 0, .int .i64 0, .int .i64 0]) ∧ (Blk wq g4 76 #[.int .i64 0, .int .i64 0, .int .i64 0, .int .i64 0, .int .i64 0, .int .i64 0]) ∧ (Off w ((g2, 74, #[.int .i64 ak, .int .i64 aa, .int .i64 av]) :: (g1, 72, #[.int .i64 ak, .int .i64 aa, .int .i64 av]) :: [(F, 43, #[.int .i64 1, .int .i64 1, .int .i64 4, .int .i64 2, .int .i64 1]), (B, 25, #[.int .i64 1, .int .i64 1, .int .i64 4, .int .i64 2, .int .i64 1]), (R, 70, #[.int .i64 k1, .int .i64 c1, .int .i64 t1, .int .i64 s1, .int .i64 f1, .int .i64 l1])]) g3) ∧ (Off w ((g2, 74, #[.int .i64 ak, .int .i64 aa, .int .i64 av]) :: (g1, 72, #[.int .i64 ak, .int .i64 aa, .int .i64 av]) :: [(F, 43, #[.int .i64 1, .int .i64 1, .int .i64 4, .int .i64 2, .int .i64 1]), (B, 25, #[.int .i64 1, .int .i64 1, .int .i64 4, .int .i64 2, .int .i64 1]), (R, 70, #[.int .i64 k1, .int .i64 c1, .int .i64 t1, .int .i64 s1, .int .i64 f1, .int .i64 l1])]) g4) ∧ (g3 ≠ g4)))
                                  · intro hD10
                                    apply wpAnyH_dag1 (R := (fun (g3 : Nat) (wq : World) => (Bg w wq ((g2, 74, #[.int .i64 ak, .int .i64 aa, .int .i64 av]) :: (g1, 72, #[.int .i64 ak, .int .i64 aa, .int .i64 av]) :: [(F, 43, #[.int .i64 1, .int .i64 1, .int .i64 4, .int .i64 2, .int .i64 1]), (B, 25, #[.int .i64 1, .int .i64 1, .int .i64 4, .int .i64 2, .int .i64 1]), (R, 70, #[.int .i64 k1, .int .i64 c1, .int .i64 t1, .int .i64 s1, .int .i64 f1, .int .i64 l1])])) ∧ (Blk wq g3 70 #[.int .i64 0, .int .i64 0, .int .i64 0, .int .i64 0, .int .i64 0, .int .i64 0]) ∧ (Off w ((g2, 74, #[.int .i64 ak, .int .i64 aa, .int .i64 av]) :: (g1, 72, #[.int .i64 ak, .int .i64 aa, .int .i64 av]) :: [(F, 43, #[.int .i64 1, .int .i64 1, .int .i64 4, .int .i64 2, .int .i64 1]), (B, 25, #[.int .i64 1, .int .i64 1, .int .i64 4, .int .i64 2, .int .i64 1]), (R, 70, #[.int .i64 k1, .int .i64 c1, .int .i64 t1, .int .i64 s1, .int .i64 f1, .int .i64 l1])]) g3)))
                                    · intro hD11
                                      apply wpAnyH_dag1 (R := (fun (g4 : Nat) (wq : World) => (Bg w wq ((g2, 74, #[.int .i64 ak, .int .i64 aa, .int .i64 av]) :: (g1, 72, #[.int .i64 ak, .int .i64 aa, .int .i64 av]) :: [(F, 43, #[.int .i64 1, .int .i64 1, .int .i64 4, .int .i64 2, .int .i64 1]), (B, 25, #[.int .i64 1, .int .i64 1, .int .i64 4, .int .i64 2, .int .i64 1]), (R, 70, #[.int .i64 k1, .int .i64 c1, .int .i64 t1, .int .i64 s1, .int .i64 f1, .int .i64 l1])])) ∧ (Blk wq g4 76 #[.int .i64 0, .int .i64 0, .int .i64 0, .int .i64 0, .int .i64 0, .int .i64 0]) ∧ (Off w ((g2, 74, #[.int .i64 ak, .int .i64 aa, .int .i64 av]) :: (g1, 72, #[.int .i64 ak, .int .i64 aa, .int .i64 av]) :: [(F, 43, #[.int .i64 1, .int .i64 1, .int .i64 4, .int .i64 2, .int .i64 1]), (B, 25, #[.int .i64 1, .int .i64 1, .int .i64 4, .int .i64 2, .int .i64 1]), (R, 70, #[.int .i64 k1, .int .i64 c1, .int .i64 t1, .int .i64 s1, .int .i64 f1, .int .i64 l1])]) g4)))
                                      · intro hD12
                                        apply wpAnyH_dag0 (R := (fun (wq : World) => (Bg w wq ((g2, 74, #[.int .i64 ak, .int .i64 aa, .int .i64 av]) :: (g1, 72, #[.int .i64 ak, .int .i64 aa, .int .i64 av]) :: [(F, 43, #[.int .i64 1, .int .i64 1, .int .i64 4, .int .i64 2, .int .i64 1]), (B, 25, #[.int .i64 1, .int .i64 1, .int .i64 4, .int .i64 2, .int .i64 1]), (R, 70, #[.int .i64 k1, .int .i64 c1, .int .i64 t1, .int .i64 s1, .int .i64 f1, .int .i64 l1])]))))
                                        · intro hD13
                                          apply wpAnyH_dag2 (R := (fun (g3 : Nat) (g4 : Nat) (wq : World) => (Bg w wq ((g2, 74, #[.int .i64 ak, .int .i64 aa, .int .i64 av]) :: (g1, 72, #[.int .i64 ak, .int .i64 aa, .int .i64 av]) :: [(F, 43, #[.int .i64 1, .int .i64 1, .int .i64 4, .int .i64 2, .int .i64 1]), (B, 25, #[.int .i64 1, .int .i64 1, .int .i64 4, .int .i64 2, .int .i64 1]), (R, 70, #[.int .i64 k1, .int .i64 c1, .int .i64 t1, .int .i64 s1, .int .i64 f1, .int .i64 l1])])) ∧ (Blk wq g3 70 #[.int .i64 0, .int .i64 0, .int .i64 0, .int .i64 0, .int .i64 0, .int .i64 0]) ∧ (Blk wq g4 76 #[.int .i64 0, .int .i64 0, .int .i64 0, .int .i64 0, .int .i64 0, .int .i64 0]) ∧ (Off w ((g2, 74, #[.int .i64 ak, .int .i64 aa, .int .i64 av]) :: (g1, 72, #[.int .i64 ak, .int .i64 aa, .int .i64 av]) :: [(F, 43, #[.int .i64 1, .int .i64 1, .int .i64 4, .int .i64 2, .int .i64 1]), (B, 25, #[.int .i64 1, .int .i64 1, .int .i64 4, .int .i64 2, .int .i64 1]), (R, 70, #[.int .i64 k1, .int .i64 c1, .int .i64 t1, .int .i64 s1, .int .i64 f1, .int .i64 l1])]) g3) ∧ (Off w ((g2, 74, #[.int .i64 ak, .int .i64 aa, .int .i64 av]) :: (g1, 72, #[.int .i64 ak, .int .i64 aa, .int .i64 av]) :: [(F, 43, #[.int .i64 1, .int .i64 1, .int .i64 4, .int .i64 2, .int .i64 1]), (B, 25, #[.int .i64 1, .int .i64 1, .int .i64 4, .int .i64 2, .int .i64 1]), (R, 70, #[.int .i64 k1, .int .i64 c1, .int .i64 t1, .int .i64 s1, .int .i64 f1, .int .i64 l1])]) g4) ∧ (g3 ≠ g4)))
                                          · intro hD14
                                            apply wpAnyH_dag1 (R := (fun (g3 : Nat) (wq : World) => (Bg w wq ((g2, 74, #[.int .i64 ak, .int .i64 aa, .int .i64 av]) :: (g1, 72, #[.int .i64 ak, .int .i64 aa, .int .i64 av]) :: [(F, 43, #[.int .i64 1, .int .i64 1, .int .i64 4, .int .i64 2, .int .i64 1]), (B, 25, #[.int .i64 1, .int .i64 1, .int .i64 4, .int .i64 2, .int .i64 1]), (R, 70, #[.int .i64 k1, .int .i64 c1, .int .i64 t1, .int .i64 s1, .int .i64 f1, .int .i64 l1])])) ∧ (Blk wq g3 70 #[.int .i64 0, .int .i64 0, .int .i64 0, .int .i64 0, .int .i64 0, .int .i64 0]) ∧ (Off w ((g2, 74, #[.int .i64 ak, .int .i64 aa, .int .i64 av]) :: (g1, 72, #[.int .i64 ak, .int .i64 aa, .int .i64 av]) :: [(F, 43, #[.int .i64 1, .int .i64 1, .int .i64 4, .int .i64 2, .int .i64 1]), (B, 25, #[.int .i64 1, .int .i64 1, .int .i64 4, .int .i64 2, .int .i64 1]), (R, 70, #[.int .i64 k1, .int .i64 c1, .int .i64 t1, .int .i64 s1, .int .i64 f1, .int .i64 l1])]) g3)))
                                            · intro hD15
                                              apply wpAnyH_dag1 (R := (fun (g4 : Nat) (wq : World) => (Bg w wq ((g2, 74, #[.int .i64 ak, .int .i64 aa, .int .i64 av]) :: (g1, 72, #[.int .i64 ak, .int .i64 aa, .int .i64 av]) :: [(F, 43, #[.int .i64 1, .int .i64 1, .int .i64 4, .int .i64 2, .int .i64 1]), (B, 25, #[.int .i64 1, .int .i64 1, .int .i64 4, .int .i64 2, .int .i64 1]), (R, 70, #[.int .i64 k1, .int .i64 c1, .int .i64 t1, .int .i64 s1, .int .i64 f1, .int .i64 l1])])) ∧ (Blk wq g4 76 #[.int .i64 0, .int .i64 0, .int .i64 0, .int .i64 0, .int .i64 0, .int .i64 0]) ∧ (Off w ((g2, 74, #[.int .i64 ak, .int .i64 aa, .int .i64 av]) :: (g1, 72, #[.int .i64 ak, .int .i64 aa, .int .i64 av]) :: [(F, 43, #[.int .i64 1, .int .i64 1, .int .i64 4, .int .i64 2, .int .i64 1]), (B, 25, #[.int .i64 1, .int .i64 1, .int .i64 4, .int .i64 2, .int .i64 1]), (R, 70, #[.int .i64 k1, .int .i64 c1, .int .i64 t1, .int .i64 s1, .int .i64 f1, .int .i64 l1])]) g4)))
                                              · intro hD16
                                                refine wpAnyH_take (i := 0) (v := ?_) (by simp only [List.getElem?_toArray, List.getElem?_cons_succ, List.getElem?_cons_zero]; rfl) (by kernel_rfl) (by kernel_rfl) (by kernel_rfl) (by exact fun _ _ _ h => h) (Or.inl ⟨by rfl, ?_⟩) hHeld ?_
                                                rotate_left
                                                · intro w hSw; (try dsimp only at hSw); go_simp; (try with_reducible rfl)
                                                try simp only [Act.put, List.setIfInBounds_toArray, List.set_cons_zero, List.set_cons_succ]
                                                refine wpAnyH_take (i := 1) (v := ?_) (by simp only [List.getElem?_toArray, List.getElem?_cons_succ, List.getElem?_cons_zero]; rfl) (by kernel_rfl) (by kernel_rfl) (by kernel_rfl) (by exact fun _ _ _ h => h) (Or.inl ⟨by rfl, ?_⟩) hHeld ?_
                                                rotate_left
                                                · intro w hSw; (try dsimp only at hSw); go_simp; (try with_reducible rfl)
                                                try simp only [Act.put, List.setIfInBounds_toArray, List.set_cons_zero, List.set_cons_succ]
                                                refine wpAnyH_take (i := 2) (v := ?_) (by simp only [List.getElem?_toArray, List.getElem?_cons_succ, List.getElem?_cons_zero]; rfl) (by kernel_rfl) (by kernel_rfl) (by kernel_rfl) (by exact fun _ _ _ h => h) (Or.inl ⟨by rfl, ?_⟩) hHeld ?_
                                                rotate_left
                                                · intro w hSw; (try dsimp only at hSw); go_simp; (try with_reducible rfl)
                                                try simp only [Act.put, List.setIfInBounds_toArray, List.set_cons_zero, List.set_cons_succ]
                                                refine wpAnyH_take (i := 4) (v := ?_) (by simp only [List.getElem?_toArray, List.getElem?_cons_succ, List.getElem?_cons_zero]; rfl) (by kernel_rfl) (by kernel_rfl) (by kernel_rfl) (by exact fun _ _ _ h => h) (Or.inl ⟨by rfl, ?_⟩) hHeld ?_
                                                rotate_left
                                                · intro w hSw; (try dsimp only at hSw); go_simp; (try with_reducible rfl)
                                                try simp only [Act.put, List.setIfInBounds_toArray, List.set_cons_zero, List.set_cons_succ]
                                                refine wpAnyH_take (i := 5) (v := ?_) (by simp only [List.getElem?_toArray, List.getElem?_cons_succ, List.getElem?_cons_zero]; rfl) (by kernel_rfl) (by kernel_rfl) (by kernel_rfl) (by exact fun _ _ _ h => h) (Or.inl ⟨by rfl, ?_⟩) hHeld ?_
                                                rotate_left
                                                · intro w hSw; (try dsimp only at hSw); go_simp; (try with_reducible rfl)
                                                try simp only [Act.put, List.setIfInBounds_toArray, List.set_cons_zero, List.set_cons_succ]
                                                refine wpAnyH_take (i := 7) (v := ?_) (by simp only [List.getElem?_toArray, List.getElem?_cons_succ, List.getElem?_cons_zero]; rfl) (by kernel_rfl) (by kernel_rfl) (by kernel_rfl) (by exact fun _ _ _ h => h) (Or.inl ⟨by rfl, ?_⟩) hHeld ?_
                                                rotate_left
                                                · intro w hSw; (try dsimp only at hSw); go_simp; (try with_reducible rfl)
                                                try simp only [Act.put, List.setIfInBounds_toArray, List.set_cons_zero, List.set_cons_succ]
                                                refine wpAnyH_ready (rs := [3, 9, 10]) (by kernel_rfl) (by simp) ?_
                                                refine AllReadyH.cons (by simp only [List.getElem?_toArray, List.getElem?_cons_succ, List.getElem?_cons_zero]; rfl) (fun kC hkC => ?_) (AllReadyH.cons (by simp only [List.getElem?_toArray, List.getElem?_cons_succ, List.getElem?_cons_zero]; rfl) (fun kC hkC => ?_) (AllReadyH.cons (by simp only [List.getElem?_toArray, List.getElem?_cons_succ, List.getElem?_cons_zero]; rfl) (fun kC hkC => ?_) AllReadyH.nil))
                                                -- operation 3 of state 17
                                                · go_simp
                                                  refine (fed_any 1 1 4 2 1 k1 c1 t1 s1 f1 l1 v HS1.out (by decide) _).mono ?_; rw [HX.out]; unfold rowV; dsimp only; rintro e3 wq ⟨rfl, hkk⟩; have hS := hS.no hkk; (try have p1 := p1.no hkk); (try have p2 := p2.no hkk); clear hkk; (try go_wp2_with fail)
                                                  refine hkC.out _ _ ?_ (fun hHeld => ?_)
                                                  · exact (ca_keep hS.tl.tl)
                                                  clear hkC kC
                                                  try simp only [Act.put, List.setIfInBounds_toArray, List.set_cons_zero, List.set_cons_succ]
                                                  exact hD13  _ hS
                                                -- operation 9 of state 17
                                                · go_simp
                                                  have o1 := hS.fresh; (try have ne12 : wq.heap.size ≠ g4 := fun e => by (have := p2.lt; omega)); have p1 := Blk.new wq #[.int .i64 0, .int .i64 0, .int .i64 0, .int .i64 0, .int .i64 0, .int .i64 0] 70; have hS := hS.no ((Keeps.refl NoS wq).alloc (.cells #[.int .i64 0, .int .i64 0, .int .i64 0, .int .i64 0, .int .i64 0, .int .i64 0] 70)); (try have p2 := p2.no ((Keeps.refl NoS wq).alloc (.cells #[.int .i64 0, .int .i64 0, .int .i64 0, .int .i64 0, .int .i64 0, .int .i64 0] 70))); obtain ⟨g3, hg1⟩ : ∃ g, wq.heap.size = g := ⟨_, rfl⟩; (try rw [hg1] at ne12); rw [hg1] at o1 p1 ⊢; clear hg1; generalize wq.alloc (.cells #[.int .i64 0, .int .i64 0, .int .i64 0, .int .i64 0, .int .i64 0, .int .i64 0] 70) = wq at *
                                                  refine hkC.out _ _ ?_ (fun hHeld => ?_)
                                                  · exact (ca_keep hS.tl.tl)
                                                  clear hkC kC
                                                  try simp only [Act.put, List.setIfInBounds_toArray, List.set_cons_zero, List.set_cons_succ]
                                                  exact hD15 g3 _ ⟨hS, p1, o1⟩
                                                -- operation 10 of state 17
                                                · go_simp
                                                  have o2 := hS.fresh; (try have ne12 : g3 ≠ wq.heap.size := fun e => by (have := p1.lt; omega)); have p2 := Blk.new wq #[.int .i64 0, .int .i64 0, .int .i64 0, .int .i64 0, .int .i64 0, .int .i64 0] 76; have hS := hS.no ((Keeps.refl NoS wq).alloc (.cells #[.int .i64 0, .int .i64 0, .int .i64 0, .int .i64 0, .int .i64 0, .int .i64 0] 76)); (try have p1 := p1.no ((Keeps.refl NoS wq).alloc (.cells #[.int .i64 0, .int .i64 0, .int .i64 0, .int .i64 0, .int .i64 0, .int .i64 0] 76))); obtain ⟨g4, hg2⟩ : ∃ g, wq.heap.size = g := ⟨_, rfl⟩; (try rw [hg2] at ne12); rw [hg2] at o2 p2 ⊢; clear hg2; generalize wq.alloc (.cells #[.int .i64 0, .int .i64 0, .int .i64 0, .int .i64 0, .int .i64 0, .int .i64 0] 76) = wq at *
                                                  refine hkC.out _ _ ?_ (fun hHeld => ?_)
                                                  · exact (ca_keep hS.tl.tl)
                                                  clear hkC kC
                                                  try simp only [Act.put, List.setIfInBounds_toArray, List.set_cons_zero, List.set_cons_succ]
                                                  exact hD16 g4 _ ⟨hS, p2, o2⟩
                                              · intro g4 wq hR
                                                obtain ⟨hS, p2, o2⟩ := hR
                                                have hHeld : (fun w' => (w'.cell? ⟨F, 0, none⟩ = some (.int .i64 1) ∧ w'.cell? ⟨F, 1, none⟩ = some (.int .i64 1) ∧ w'.cell? ⟨F, 2, none⟩ = some (.int .i64 4) ∧ w'.cell? ⟨F, 3, none⟩ = some (.int .i64 2) ∧ w'.cell? ⟨F, 4, none⟩ = some (.int .i64 1)) ∧ (w'.cell? ⟨B, 0, none⟩ = some (.int .i64 1) ∧ w'.cell? ⟨B, 1, none⟩ = some (.int .i64 1) ∧ w'.cell? ⟨B, 2, none⟩ = some (.int .i64 4) ∧ w'.cell? ⟨B, 3, none⟩ = some (.int .i64 2) ∧ w'.cell? ⟨B, 4, none⟩ = some (.int .i64 1)) ∧ (w'.cell? ⟨R, 0, none⟩ = some (.int .i64 k1) ∧ w'.cell? ⟨R, 1, none⟩ = some (.int .i64 c1) ∧ w'.cell? ⟨R, 2, none⟩ = some (.int .i64 t1) ∧ w'.cell? ⟨R, 3, none⟩ = some (.int .i64 s1) ∧ w'.cell? ⟨R, 4, none⟩ = some (.int .i64 f1) ∧ w'.cell? ⟨R, 5, none⟩ = some (.int .i64 l1))) wq := ca_keep hS.tl.tl
                                                refine wpAnyH_ready (rs := [3, 9]) (by kernel_rfl) (by simp) ?_
                                                refine AllReadyH.cons (by simp only [List.getElem?_toArray, List.getElem?_cons_succ, List.getElem?_cons_zero]; rfl) (fun kC hkC => ?_) (AllReadyH.cons (by simp only [List.getElem?_toArray, List.getElem?_cons_succ, List.getElem?_cons_zero]; rfl) (fun kC hkC => ?_) AllReadyH.nil)
                                                -- operation 3 of state 16
                                                · go_simp
                                                  refine (fed_any 1 1 4 2 1 k1 c1 t1 s1 f1 l1 v HS1.out (by decide) _).mono ?_; rw [HX.out]; unfold rowV; dsimp only; rintro e3 wq ⟨rfl, hkk⟩; have hS := hS.no hkk; (try have p1 := p1.no hkk); (try have p2 := p2.no hkk); clear hkk; (try go_wp2_with fail)
                                                  refine hkC.out _ _ ?_ (fun hHeld => ?_)
                                                  · exact (ca_keep hS.tl.tl)
                                                  clear hkC kC
                                                  try simp only [Act.put, List.setIfInBounds_toArray, List.set_cons_zero, List.set_cons_succ]
                                                  exact hD12 g4 _ ⟨hS, p2, o2⟩
                                                -- operation 9 of state 16
                                                · go_simp
                                                  have o1 := hS.fresh; (try have ne12 : wq.heap.size ≠ g4 := fun e => by (have := p2.lt; omega)); have p1 := Blk.new wq #[.int .i64 0, .int .i64 0, .int .i64 0, .int .i64 0, .int .i64 0, .int .i64 0] 70; have hS := hS.no ((Keeps.refl NoS wq).alloc (.cells #[.int .i64 0, .int .i64 0, .int .i64 0, .int .i64 0, .int .i64 0, .int .i64 0] 70)); (try have p2 := p2.no ((Keeps.refl NoS wq).alloc (.cells #[.int .i64 0, .int .i64 0, .int .i64 0, .int .i64 0, .int .i64 0, .int .i64 0] 70))); obtain ⟨g3, hg1⟩ : ∃ g, wq.heap.size = g := ⟨_, rfl⟩; (try rw [hg1] at ne12); rw [hg1] at o1 p1 ⊢; clear hg1; generalize wq.alloc (.cells #[.int .i64 0, .int .i64 0, .int .i64 0, .int .i64 0, .int .i64 0, .int .i64 0] 70) = wq at *
                                                  refine hkC.out _ _ ?_ (fun hHeld => ?_)
                                                  · exact (ca_keep hS.tl.tl)
                                                  clear hkC kC
                                                  try simp only [Act.put, List.setIfInBounds_toArray, List.set_cons_zero, List.set_cons_succ]
                                                  exact hD14 g3 g4 _ ⟨hS, p1, p2, o1, o2, ne12⟩
                                            · intro g3 wq hR
                                              obtain ⟨hS, p1, o1⟩ := hR
                                              have hHeld : (fun w' => (w'.cell? ⟨F, 0, none⟩ = some (.int .i64 1) ∧ w'.cell? ⟨F, 1, none⟩ = some (.int .i64 1) ∧ w'.cell? ⟨F, 2, none⟩ = some (.int .i64 4) ∧ w'.cell? ⟨F, 3, none⟩ = some (.int .i64 2) ∧ w'.cell? ⟨F, 4, none⟩ = some (.int .i64 1)) ∧ (w'.cell? ⟨B, 0, none⟩ = some (.int .i64 1) ∧ w'.cell? ⟨B, 1, none⟩ = some (.int .i64 1) ∧ w'.cell? ⟨B, 2, none⟩ = some (.int .i64 4) ∧ w'.cell? ⟨B, 3, none⟩ = some (.int .i64 2) ∧ w'.cell? ⟨B, 4, none⟩ = some (.int .i64 1)) ∧ (w'.cell? ⟨R, 0, none⟩ = some (.int .i64 k1) ∧ w'.cell? ⟨R, 1, none⟩ = some (.int .i64 c1) ∧ w'.cell? ⟨R, 2, none⟩ = some (.int .i64 t1) ∧ w'.cell? ⟨R, 3, none⟩ = some (.int .i64 s1) ∧ w'.cell? ⟨R, 4, none⟩ = some (.int .i64 f1) ∧ w'.cell? ⟨R, 5, none⟩ = some (.int .i64 l1))) wq := ca_keep hS.tl.tl
                                              refine wpAnyH_ready (rs := [3, 10]) (by kernel_rfl) (by simp) ?_
                                              refine AllReadyH.cons (by simp only [List.getElem?_toArray, List.getElem?_cons_succ, List.getElem?_cons_zero]; rfl) (fun kC hkC => ?_) (AllReadyH.cons (by simp only [List.getElem?_toArray, List.getElem?_cons_succ, List.getElem?_cons_zero]; rfl) (fun kC hkC => ?_) AllReadyH.nil)
                                              -- operation 3 of state 15
                                              · go_simp
                                                refine (fed_any 1 1 4 2 1 k1 c1 t1 s1 f1 l1 v HS1.out (by decide) _).mono ?_; rw [HX.out]; unfold rowV; dsimp only; rintro e3 wq ⟨rfl, hkk⟩; have hS := hS.no hkk; (try have p1 := p1.no hkk); (try have p2 := p2.no hkk); clear hkk; (try go_wp2_with fail)
                                                refine hkC.out _ _ ?_ (fun hHeld => ?_)
                                                · exact (ca_keep hS.tl.tl)
                                                clear hkC kC
                                                try simp only [Act.put, List.setIfInBounds_toArray, List.set_cons_zero, List.set_cons_succ]
                                                exact hD11 g3 _ ⟨hS, p1, o1⟩
                                              -- operation 10 of state 15
                                              · go_simp
                                                have o2 := hS.fresh; (try have ne12 : g3 ≠ wq.heap.size := fun e => by (have := p1.lt; omega)); have p2 := Blk.new wq #[.int .i64 0, .int .i64 0, .int .i64 0, .int .i64 0, .int .i64 0, .int .i64 0] 76; have hS := hS.no ((Keeps.refl NoS wq).alloc (.cells #[.int .i64 0, .int .i64 0, .int .i64 0, .int .i64 0, .int .i64 0, .int .i64 0] 76)); (try have p1 := p1.no ((Keeps.refl NoS wq).alloc (.cells #[.int .i64 0, .int .i64 0, .int .i64 0, .int .i64 0, .int .i64 0, .int .i64 0] 76))); obtain ⟨g4, hg2⟩ : ∃ g, wq.heap.size = g := ⟨_, rfl⟩; (try rw [hg2] at ne12); rw [hg2] at o2 p2 ⊢; clear hg2; generalize wq.alloc (.cells #[.int .i64 0, .int .i64 0, .int .i64 0, .int .i64 0, .int .i64 0, .int .i64 0] 76) = wq at *
                                                refine hkC.out _ _ ?_ (fun hHeld => ?_)
                                                · exact (ca_keep hS.tl.tl)
                                                clear hkC kC
                                                try simp only [Act.put, List.setIfInBounds_toArray, List.set_cons_zero, List.set_cons_succ]
                                                exact hD14 g3 g4 _ ⟨hS, p1, p2, o1, o2, ne12⟩
                                          · intro g3 g4 wq hR
                                            obtain ⟨hS, p1, p2, o1, o2, ne12⟩ := hR
                                            have hHeld : (fun w' => (w'.cell? ⟨F, 0, none⟩ = some (.int .i64 1) ∧ w'.cell? ⟨F, 1, none⟩ = some (.int .i64 1) ∧ w'.cell? ⟨F, 2, none⟩ = some (.int .i64 4) ∧ w'.cell? ⟨F, 3, none⟩ = some (.int .i64 2) ∧ w'.cell? ⟨F, 4, none⟩ = some (.int .i64 1)) ∧ (w'.cell? ⟨B, 0, none⟩ = some (.int .i64 1) ∧ w'.cell? ⟨B, 1, none⟩ = some (.int .i64 1) ∧ w'.cell? ⟨B, 2, none⟩ = some (.int .i64 4) ∧ w'.cell? ⟨B, 3, none⟩ = some (.int .i64 2) ∧ w'.cell? ⟨B, 4, none⟩ = some (.int .i64 1)) ∧ (w'.cell? ⟨R, 0, none⟩ = some (.int .i64 k1) ∧ w'.cell? ⟨R, 1, none⟩ = some (.int .i64 c1) ∧ w'.cell? ⟨R, 2, none⟩ = some (.int .i64 t1) ∧ w'.cell? ⟨R, 3, none⟩ = some (.int .i64 s1) ∧ w'.cell? ⟨R, 4, none⟩ = some (.int .i64 f1) ∧ w'.cell? ⟨R, 5, none⟩ = some (.int .i64 l1))) wq := ca_keep hS.tl.tl
                                            refine wpAnyH_ready (rs := [3]) (by kernel_rfl) (by simp) ?_
                                            refine AllReadyH.cons (by simp only [List.getElem?_toArray, List.getElem?_cons_succ, List.getElem?_cons_zero]; rfl) (fun kC hkC => ?_) AllReadyH.nil
                                            -- operation 3 of state 14
                                            · go_simp
                                              refine (fed_any 1 1 4 2 1 k1 c1 t1 s1 f1 l1 v HS1.out (by decide) _).mono ?_; rw [HX.out]; unfold rowV; dsimp only; rintro e3 wq ⟨rfl, hkk⟩; have hS := hS.no hkk; (try have p1 := p1.no hkk); (try have p2 := p2.no hkk); clear hkk; (try go_wp2_with fail)
                                              refine hkC.out _ _ ?_ (fun hHeld => ?_)
                                              · exact (ca_keep hS.tl.tl)
                                              clear hkC kC
                                              try simp only [Act.put, List.setIfInBounds_toArray, List.set_cons_zero, List.set_cons_succ]
                                              exact hD10 g3 g4 _ ⟨hS, p1, p2, o1, o2, ne12⟩
                                        · intro wq hR
                                          have hS := hR
                                          have hHeld : (fun w' => (w'.cell? ⟨F, 0, none⟩ = some (.int .i64 1) ∧ w'.cell? ⟨F, 1, none⟩ = some (.int .i64 1) ∧ w'.cell? ⟨F, 2, none⟩ = some (.int .i64 4) ∧ w'.cell? ⟨F, 3, none⟩ = some (.int .i64 2) ∧ w'.cell? ⟨F, 4, none⟩ = some (.int .i64 1)) ∧ (w'.cell? ⟨B, 0, none⟩ = some (.int .i64 1) ∧ w'.cell? ⟨B, 1, none⟩ = some (.int .i64 1) ∧ w'.cell? ⟨B, 2, none⟩ = some (.int .i64 4) ∧ w'.cell? ⟨B, 3, none⟩ = some (.int .i64 2) ∧ w'.cell? ⟨B, 4, none⟩ = some (.int .i64 1)) ∧ (w'.cell? ⟨R, 0, none⟩ = some (.int .i64 k1) ∧ w'.cell? ⟨R, 1, none⟩ = some (.int .i64 c1) ∧ w'.cell? ⟨R, 2, none⟩ = some (.int .i64 t1) ∧ w'.cell? ⟨R, 3, none⟩ = some (.int .i64 s1) ∧ w'.cell? ⟨R, 4, none⟩ = some (.int .i64 f1) ∧ w'.cell? ⟨R, 5, none⟩ = some (.int .i64 l1))) wq := ca_keep hS.tl.tl
                                          refine wpAnyH_ready (rs := [6, 9, 10]) (by kernel_rfl) (by simp) ?_
                                          refine AllReadyH.cons (by simp only [List.getElem?_toArray, List.getElem?_cons_succ, List.getElem?_cons_zero]; rfl) (fun kC hkC => ?_) (AllReadyH.cons (by simp only [List.getElem?_toArray, List.getElem?_cons_succ, List.getElem?_cons_zero]; rfl) (fun kC hkC => ?_) (AllReadyH.cons (by simp only [List.getElem?_toArray, List.getElem?_cons_succ, List.getElem?_cons_zero]; rfl) (fun kC hkC => ?_) AllReadyH.nil))
                                          -- operation 6 of state 13
                                          · go_simp
                                            refine (flat_any k1 c1 t1 s1 f1 l1 _).mono ?_; rintro e3 wq ⟨rfl, hkk⟩; have hS := hS.no hkk; (try have p1 := p1.no hkk); (try have p2 := p2.no hkk); clear hkk; (try go_wp2_with fail)
                                            refine hkC.out _ _ ?_ (fun hHeld => ?_)
                                            · exact (ca_keep hS.tl.tl)
                                            clear hkC kC
                                            try simp only [Act.put, List.setIfInBounds_toArray, List.set_cons_zero, List.set_cons_succ]
                                            exact hD9  _ hS
                                          -- operation 9 of state 13
                                          · go_simp
                                            have o1 := hS.fresh; (try have ne12 : wq.heap.size ≠ g4 := fun e => by (have := p2.lt; omega)); have p1 := Blk.new wq #[.int .i64 0, .int .i64 0, .int .i64 0, .int .i64 0, .int .i64 0, .int .i64 0] 70; have hS := hS.no ((Keeps.refl NoS wq).alloc (.cells #[.int .i64 0, .int .i64 0, .int .i64 0, .int .i64 0, .int .i64 0, .int .i64 0] 70)); (try have p2 := p2.no ((Keeps.refl NoS wq).alloc (.cells #[.int .i64 0, .int .i64 0, .int .i64 0, .int .i64 0, .int .i64 0, .int .i64 0] 70))); obtain ⟨g3, hg1⟩ : ∃ g, wq.heap.size = g := ⟨_, rfl⟩; (try rw [hg1] at ne12); rw [hg1] at o1 p1 ⊢; clear hg1; generalize wq.alloc (.cells #[.int .i64 0, .int .i64 0, .int .i64 0, .int .i64 0, .int .i64 0, .int .i64 0] 70) = wq at *
                                            refine hkC.out _ _ ?_ (fun hHeld => ?_)
                                            · exact (ca_keep hS.tl.tl)
                                            clear hkC kC
                                            try simp only [Act.put, List.setIfInBounds_toArray, List.set_cons_zero, List.set_cons_succ]
                                            exact hD11 g3 _ ⟨hS, p1, o1⟩
                                          -- operation 10 of state 13
                                          · go_simp
                                            have o2 := hS.fresh; (try have ne12 : g3 ≠ wq.heap.size := fun e => by (have := p1.lt; omega)); have p2 := Blk.new wq #[.int .i64 0, .int .i64 0, .int .i64 0, .int .i64 0, .int .i64 0, .int .i64 0] 76; have hS := hS.no ((Keeps.refl NoS wq).alloc (.cells #[.int .i64 0, .int .i64 0, .int .i64 0, .int .i64 0, .int .i64 0, .int .i64 0] 76)); (try have p1 := p1.no ((Keeps.refl NoS wq).alloc (.cells #[.int .i64 0, .int .i64 0, .int .i64 0, .int .i64 0, .int .i64 0, .int .i64 0] 76))); obtain ⟨g4, hg2⟩ : ∃ g, wq.heap.size = g := ⟨_, rfl⟩; (try rw [hg2] at ne12); rw [hg2] at o2 p2 ⊢; clear hg2; generalize wq.alloc (.cells #[.int .i64 0, .int .i64 0, .int .i64 0, .int .i64 0, .int .i64 0, .int .i64 0] 76) = wq at *
                                            refine hkC.out _ _ ?_ (fun hHeld => ?_)
                                            · exact (ca_keep hS.tl.tl)
                                            clear hkC kC
                                            try simp only [Act.put, List.setIfInBounds_toArray, List.set_cons_zero, List.set_cons_succ]
                                            exact hD12 g4 _ ⟨hS, p2, o2⟩
                                      · intro g4 wq hR
                                        obtain ⟨hS, p2, o2⟩ := hR
                                        have hHeld : (fun w' => (w'.cell? ⟨F, 0, none⟩ = some (.int .i64 1) ∧ w'.cell? ⟨F, 1, none⟩ = some (.int .i64 1) ∧ w'.cell? ⟨F, 2, none⟩ = some (.int .i64 4) ∧ w'.cell? ⟨F, 3, none⟩ = some (.int .i64 2) ∧ w'.cell? ⟨F, 4, none⟩ = some (.int .i64 1)) ∧ (w'.cell? ⟨B, 0, none⟩ = some (.int .i64 1) ∧ w'.cell? ⟨B, 1, none⟩ = some (.int .i64 1) ∧ w'.cell? ⟨B, 2, none⟩ = some (.int .i64 4) ∧ w'.cell? ⟨B, 3, none⟩ = some (.int .i64 2) ∧ w'.cell? ⟨B, 4, none⟩ = some (.int .i64 1)) ∧ (w'.cell? ⟨R, 0, none⟩ = some (.int .i64 k1) ∧ w'.cell? ⟨R, 1, none⟩ = some (.int .i64 c1) ∧ w'.cell? ⟨R, 2, none⟩ = some (.int .i64 t1) ∧ w'.cell? ⟨R, 3, none⟩ = some (.int .i64 s1) ∧ w'.cell? ⟨R, 4, none⟩ = some (.int .i64 f1) ∧ w'.cell? ⟨R, 5, none⟩ = some (.int .i64 l1))) wq := ca_keep hS.tl.tl
                                        refine wpAnyH_ready (rs := [6, 9]) (by kernel_rfl) (by simp) ?_
                                        refine AllReadyH.cons (by simp only [List.getElem?_toArray, List.getElem?_cons_succ, List.getElem?_cons_zero]; rfl) (fun kC hkC => ?_) (AllReadyH.cons (by simp only [List.getElem?_toArray, List.getElem?_cons_succ, List.getElem?_cons_zero]; rfl) (fun kC hkC => ?_) AllReadyH.nil)
                                        -- operation 6 of state 12
                                        · go_simp
                                          refine (flat_any k1 c1 t1 s1 f1 l1 _).mono ?_; rintro e3 wq ⟨rfl, hkk⟩; have hS := hS.no hkk; (try have p1 := p1.no hkk); (try have p2 := p2.no hkk); clear hkk; (try go_wp2_with fail)
                                          refine hkC.out _ _ ?_ (fun hHeld => ?_)
                                          · exact (ca_keep hS.tl.tl)
                                          clear hkC kC
                                          try simp only [Act.put, List.setIfInBounds_toArray, List.set_cons_zero, List.set_cons_succ]
                                          exact hD8 g4 _ ⟨hS, p2, o2⟩
                                        -- operation 9 of state 12
                                        · go_simp
                                          have o1 := hS.fresh; (try have ne12 : wq.heap.size ≠ g4 := fun e => by (have := p2.lt; omega)); have p1 := Blk.new wq #[.int .i64 0, .int .i64 0, .int .i64 0, .int .i64 0, .int .i64 0, .int .i64 0] 70; have hS := hS.no ((Keeps.refl NoS wq).alloc (.cells #[.int .i64 0, .int .i64 0, .int .i64 0, .int .i64 0, .int .i64 0, .int .i64 0] 70)); (try have p2 := p2.no ((Keeps.refl NoS wq).alloc (.cells #[.int .i64 0, .int .i64 0, .int .i64 0, .int .i64 0, .int .i64 0, .int .i64 0] 70))); obtain ⟨g3, hg1⟩ : ∃ g, wq.heap.size = g := ⟨_, rfl⟩; (try rw [hg1] at ne12); rw [hg1] at o1 p1 ⊢; clear hg1; generalize wq.alloc (.cells #[.int .i64 0, .int .i64 0, .int .i64 0, .int .i64 0, .int .i64 0, .int .i64 0] 70) = wq at *
                                          refine hkC.out _ _ ?_ (fun hHeld => ?_)
                                          · exact (ca_keep hS.tl.tl)
                                          clear hkC kC
                                          try simp only [Act.put, List.setIfInBounds_toArray, List.set_cons_zero, List.set_cons_succ]
                                          exact hD10 g3 g4 _ ⟨hS, p1, p2, o1, o2, ne12⟩
                                    · intro g3 wq hR
                                      obtain ⟨hS, p1, o1⟩ := hR
                                      have hHeld : (fun w' => (w'.cell? ⟨F, 0, none⟩ = some (.int .i64 1) ∧ w'.cell? ⟨F, 1, none⟩ = some (.int .i64 1) ∧ w'.cell? ⟨F, 2, none⟩ = some (.int .i64 4) ∧ w'.cell? ⟨F, 3, none⟩ = some (.int .i64 2) ∧ w'.cell? ⟨F, 4, none⟩ = some (.int .i64 1)) ∧ (w'.cell? ⟨B, 0, none⟩ = some (.int .i64 1) ∧ w'.cell? ⟨B, 1, none⟩ = some (.int .i64 1) ∧ w'.cell? ⟨B, 2, none⟩ = some (.int .i64 4) ∧ w'.cell? ⟨B, 3, none⟩ = some (.int .i64 2) ∧ w'.cell? ⟨B, 4, none⟩ = some (.int .i64 1)) ∧ (w'.cell? ⟨R, 0, none⟩ = some (.int .i64 k1) ∧ w'.cell? ⟨R, 1, none⟩ = some (.int .i64 c1) ∧ w'.cell? ⟨R, 2, none⟩ = some (.int .i64 t1) ∧ w'.cell? ⟨R, 3, none⟩ = some (.int .i64 s1) ∧ w'.cell? ⟨R, 4, none⟩ = some (.int .i64 f1) ∧ w'.cell? ⟨R, 5, none⟩ = some (.int .i64 l1))) wq := ca_keep hS.tl.tl
                                      refine wpAnyH_ready (rs := [6, 10]) (by kernel_rfl) (by simp) ?_
                                      refine AllReadyH.cons (by simp only [List.getElem?_toArray, List.getElem?_cons_succ, List.getElem?_cons_zero]; rfl) (fun kC hkC => ?_) (AllReadyH.cons (by simp only [List.getElem?_toArray, List.getElem?_cons_succ, List.getElem?_cons_zero]; rfl) (fun kC hkC => ?_) AllReadyH.nil)
                                      -- operation 6 of state 11
                                      · go_simp
                                        refine (flat_any k1 c1 t1 s1 f1 l1 _).mono ?_; rintro e3 wq ⟨rfl, hkk⟩; have hS := hS.no hkk; (try have p1 := p1.no hkk); (try have p2 := p2.no hkk); clear hkk; (try go_wp2_with fail)
                                        refine hkC.out _ _ ?_ (fun hHeld => ?_)
                                        · exact (ca_keep hS.tl.tl)
                                        clear hkC kC
                                        try simp only [Act.put, List.setIfInBounds_toArray, List.set_cons_zero, List.set_cons_succ]
                                        exact hD7 g3 _ ⟨hS, p1, o1⟩
                                      -- operation 10 of state 11
                                      · go_simp
                                        have o2 := hS.fresh; (try have ne12 : g3 ≠ wq.heap.size := fun e => by (have := p1.lt; omega)); have p2 := Blk.new wq #[.int .i64 0, .int .i64 0, .int .i64 0, .int .i64 0, .int .i64 0, .int .i64 0] 76; have hS := hS.no ((Keeps.refl NoS wq).alloc (.cells #[.int .i64 0, .int .i64 0, .int .i64 0, .int .i64 0, .int .i64 0, .int .i64 0] 76)); (try have p1 := p1.no ((Keeps.refl NoS wq).alloc (.cells #[.int .i64 0, .int .i64 0, .int .i64 0, .int .i64 0, .int .i64 0, .int .i64 0] 76))); obtain ⟨g4, hg2⟩ : ∃ g, wq.heap.size = g := ⟨_, rfl⟩; (try rw [hg2] at ne12); rw [hg2] at o2 p2 ⊢; clear hg2; generalize wq.alloc (.cells #[.int .i64 0, .int .i64 0, .int .i64 0, .int .i64 0, .int .i64 0, .int .i64 0] 76) = wq at *
                                        refine hkC.out _ _ ?_ (fun hHeld => ?_)
                                        · exact (ca_keep hS.tl.tl)
                                        clear hkC kC
                                        try simp only [Act.put, List.setIfInBounds_toArray, List.set_cons_zero, List.set_cons_succ]
                                        exact hD10 g3 g4 _ ⟨hS, p1, p2, o1, o2, ne12⟩
                                  · intro g3 g4 wq hR
                                    obtain ⟨hS, p1, p2, o1, o2, ne12⟩ := hR
                                    have hHeld : (fun w' => (w'.cell? ⟨F, 0, none⟩ = some (.int .i64 1) ∧ w'.cell? ⟨F, 1, none⟩ = some (.int .i64 1) ∧ w'.cell? ⟨F, 2, none⟩ = some (.int .i64 4) ∧ w'.cell? ⟨F, 3, none⟩ = some (.int .i64 2) ∧ w'.cell? ⟨F, 4, none⟩ = some (.int .i64 1)) ∧ (w'.cell? ⟨B, 0, none⟩ = some (.int .i64 1) ∧ w'.cell? ⟨B, 1, none⟩ = some (.int .i64 1) ∧ w'.cell? ⟨B, 2, none⟩ = some (.int .i64 4) ∧ w'.cell? ⟨B, 3, none⟩ = some (.int .i64 2) ∧ w'.cell? ⟨B, 4, none⟩ = some (.int .i64 1)) ∧ (w'.cell? ⟨R, 0, none⟩ = some (.int .i64 k1) ∧ w'.cell? ⟨R, 1, none⟩ = some (.int .i64 c1) ∧ w'.cell? ⟨R, 2, none⟩ = some (.int .i64 t1) ∧ w'.cell? ⟨R, 3, none⟩ = some (.int .i64 s1) ∧ w'.cell? ⟨R, 4, none⟩ = some (.int .i64 f1) ∧ w'.cell? ⟨R, 5, none⟩ = some (.int .i64 l1))) wq := ca_keep hS.tl.tl
                                    refine wpAnyH_ready (rs := [6]) (by kernel_rfl) (by simp) ?_
                                    refine AllReadyH.cons (by simp only [List.getElem?_toArray, List.getElem?_cons_succ, List.getElem?_cons_zero]; rfl) (fun kC hkC => ?_) AllReadyH.nil
                                    -- operation 6 of state 10
                                    · go_simp
                                      refine (flat_any k1 c1 t1 s1 f1 l1 _).mono ?_; rintro e3 wq ⟨rfl, hkk⟩; have hS := hS.no hkk; (try have p1 := p1.no hkk); (try have p2 := p2.no hkk); clear hkk; (try go_wp2_with fail)
                                      refine hkC.out _ _ ?_ (fun hHeld => ?_)
                                      · exact (ca_keep hS.tl.tl)
                                      clear hkC kC
                                      try simp only [Act.put, List.setIfInBounds_toArray, List.set_cons_zero, List.set_cons_succ]
                                      exact hD6 g3 g4 _ ⟨hS, p1, p2, o1, o2, ne12⟩
                                · intro wq hR
                                  have hS := hR
                                  have hHeld : (fun w' => (w'.cell? ⟨F, 0, none⟩ = some (.int .i64 1) ∧ w'.cell? ⟨F, 1, none⟩ = some (.int .i64 1) ∧ w'.cell? ⟨F, 2, none⟩ = some (.int .i64 4) ∧ w'.cell? ⟨F, 3, none⟩ = some (.int .i64 2) ∧ w'.cell? ⟨F, 4, none⟩ = some (.int .i64 1)) ∧ (w'.cell? ⟨B, 0, none⟩ = some (.int .i64 1) ∧ w'.cell? ⟨B, 1, none⟩ = some (.int .i64 1) ∧ w'.cell? ⟨B, 2, none⟩ = some (.int .i64 4) ∧ w'.cell? ⟨B, 3, none⟩ = some (.int .i64 2) ∧ w'.cell? ⟨B, 4, none⟩ = some (.int .i64 1)) ∧ (w'.cell? ⟨R, 0, none⟩ = some (.int .i64 k1) ∧ w'.cell? ⟨R, 1, none⟩ = some (.int .i64 c1) ∧ w'.cell? ⟨R, 2, none⟩ = some (.int .i64 t1) ∧ w'.cell? ⟨R, 3, none⟩ = some (.int .i64 s1) ∧ w'.cell? ⟨R, 4, none⟩ = some (.int .i64 f1) ∧ w'.cell? ⟨R, 5, none⟩ = some (.int .i64 l1))) wq := ca_keep hS.tl.tl
                                  refine wpAnyH_ready (rs := [8, 9, 10]) (by kernel_rfl) (by simp) ?_
                                  refine AllReadyH.cons (by simp only [List.getElem?_toArray, List.getElem?_cons_succ, List.getElem?_cons_zero]; rfl) (fun kC hkC => ?_) (AllReadyH.cons (by simp only [List.getElem?_toArray, List.getElem?_cons_succ, List.getElem?_cons_zero]; rfl) (fun kC hkC => ?_) (AllReadyH.cons (by simp only [List.getElem?_toArray, List.getElem?_cons_succ, List.getElem?_cons_zero]; rfl) (fun kC hkC => ?_) AllReadyH.nil))
                                  -- operation 8 of state 9
                                  · go_simp
                                    refine (rfed_any k1 c1 t1 s1 f1 l1 v HS1.out _).mono ?_; rw [HX.out]; unfold rowV; dsimp only; rintro e3 wq ⟨rfl, hkk⟩; have hS := hS.no hkk; (try have p1 := p1.no hkk); (try have p2 := p2.no hkk); clear hkk; (try go_wp2_with fail)
                                    refine hkC.out _ _ ?_ (fun hHeld => ?_)
                                    · exact (ca_keep hS.tl.tl)
                                    clear hkC kC
                                    try simp only [Act.put, List.setIfInBounds_toArray, List.set_cons_zero, List.set_cons_succ]
                                    exact hD5  _ hS
                                  -- operation 9 of state 9
                                  · go_simp
                                    have o1 := hS.fresh; (try have ne12 : wq.heap.size ≠ g4 := fun e => by (have := p2.lt; omega)); have p1 := Blk.new wq #[.int .i64 0, .int .i64 0, .int .i64 0, .int .i64 0, .int .i64 0, .int .i64 0] 70; have hS := hS.no ((Keeps.refl NoS wq).alloc (.cells #[.int .i64 0, .int .i64 0, .int .i64 0, .int .i64 0, .int .i64 0, .int .i64 0] 70)); (try have p2 := p2.no ((Keeps.refl NoS wq).alloc (.cells #[.int .i64 0, .int .i64 0, .int .i64 0, .int .i64 0, .int .i64 0, .int .i64 0] 70))); obtain ⟨g3, hg1⟩ : ∃ g, wq.heap.size = g := ⟨_, rfl⟩; (try rw [hg1] at ne12); rw [hg1] at o1 p1 ⊢; clear hg1; generalize wq.alloc (.cells #[.int .i64 0, .int .i64 0, .int .i64 0, .int .i64 0, .int .i64 0, .int .i64 0] 70) = wq at *
                                    refine hkC.out _ _ ?_ (fun hHeld => ?_)
                                    · exact (ca_keep hS.tl.tl)
                                    clear hkC kC
                                    try simp only [Act.put, List.setIfInBounds_toArray, List.set_cons_zero, List.set_cons_succ]
                                    exact hD7 g3 _ ⟨hS, p1, o1⟩
                                  -- operation 10 of state 9
                                  · go_simp
                                    have o2 := hS.fresh; (try have ne12 : g3 ≠ wq.heap.size := fun e => by (have := p1.lt; omega)); have p2 := Blk.new wq #[.int .i64 0, .int .i64 0, .int .i64 0, .int .i64 0, .int .i64 0, .int .i64 0] 76; have hS := hS.no ((Keeps.refl NoS wq).alloc (.cells #[.int .i64 0, .int .i64 0, .int .i64 0, .int .i64 0, .int .i64 0, .int .i64 0] 76)); (try have p1 := p1.no ((Keeps.refl NoS wq).alloc (.cells #[.int .i64 0, .int .i64 0, .int .i64 0, .int .i64 0, .int .i64 0, .int .i64 0] 76))); obtain ⟨g4, hg2⟩ : ∃ g, wq.heap.size = g := ⟨_, rfl⟩; (try rw [hg2] at ne12); rw [hg2] at o2 p2 ⊢; clear hg2; generalize wq.alloc (.cells #[.int .i64 0, .int .i64 0, .int .i64 0, .int .i64 0, .int .i64 0, .int .i64 0] 76) = wq at *
                                    refine hkC.out _ _ ?_ (fun hHeld => ?_)
                                    · exact (ca_keep hS.tl.tl)
                                    clear hkC kC
                                    try simp only [Act.put, List.setIfInBounds_toArray, List.set_cons_zero, List.set_cons_succ]
                                    exact hD8 g4 _ ⟨hS, p2, o2⟩
                              · intro g4 wq hR
                                obtain ⟨hS, p2, o2⟩ := hR
                                have hHeld : (fun w' => (w'.cell? ⟨F, 0, none⟩ = some (.int .i64 1) ∧ w'.cell? ⟨F, 1, none⟩ = some (.int .i64 1) ∧ w'.cell? ⟨F, 2, none⟩ = some (.int .i64 4) ∧ w'.cell? ⟨F, 3, none⟩ = some (.int .i64 2) ∧ w'.cell? ⟨F, 4, none⟩ = some (.int .i64 1)) ∧ (w'.cell? ⟨B, 0, none⟩ = some (.int .i64 1) ∧ w'.cell? ⟨B, 1, none⟩ = some (.int .i64 1) ∧ w'.cell? ⟨B, 2, none⟩ = some (.int .i64 4) ∧ w'.cell? ⟨B, 3, none⟩ = some (.int .i64 2) ∧ w'.cell? ⟨B, 4, none⟩ = some (.int .i64 1)) ∧ (w'.cell? ⟨R, 0, none⟩ = some (.int .i64 k1) ∧ w'.cell? ⟨R, 1, none⟩ = some (.int .i64 c1) ∧ w'.cell? ⟨R, 2, none⟩ = some (.int .i64 t1) ∧ w'.cell? ⟨R, 3, none⟩ = some (.int .i64 s1) ∧ w'.cell? ⟨R, 4, none⟩ = some (.int .i64 f1) ∧ w'.cell? ⟨R, 5, none⟩ = some (.int .i64 l1))) wq := ca_keep hS.tl.tl
                                refine wpAnyH_ready (rs := [8, 9]) (by kernel_rfl) (by simp) ?_
                                refine AllReadyH.cons (by simp only [List.getElem?_toArray, List.getElem?_cons_succ, List.getElem?_cons_zero]; rfl) (fun kC hkC => ?_) (AllReadyH.cons (by simp only [List.getElem?_toArray, List.getElem?_cons_succ, List.getElem?_cons_zero]; rfl) (fun kC hkC => ?_) AllReadyH.nil)
                                -- operation 8 of state 8
                                · go_simp
                                  refine (rfed_any k1 c1 t1 s1 f1 l1 v HS1.out _).mono ?_; rw [HX.out]; unfold rowV; dsimp only; rintro e3 wq ⟨rfl, hkk⟩; have hS := hS.no hkk; (try have p1 := p1.no hkk); (try have p2 := p2.no hkk); clear hkk; (try go_wp2_with fail)
                                  refine hkC.out _ _ ?_ (fun hHeld => ?_)
                                  · exact (ca_keep hS.tl.tl)
                                  clear hkC kC
                                  try simp only [Act.put, List.setIfInBounds_toArray, List.set_cons_zero, List.set_cons_succ]
                                  exact hD4 g4 _ ⟨hS, p2, o2⟩
                                -- operation 9 of state 8
                                · go_simp
                                  have o1 := hS.fresh; (try have ne12 : wq.heap.size ≠ g4 := fun e => by (have := p2.lt; omega)); have p1 := Blk.new wq #[.int .i64 0, .int .i64 0, .int .i64 0, .int .i64 0, .int .i64 0, .int .i64 0] 70; have hS := hS.no ((Keeps.refl NoS wq).alloc (.cells #[.int .i64 0, .int .i64 0, .int .i64 0, .int .i64 0, .int .i64 0, .int .i64 0] 70)); (try have p2 := p2.no ((Keeps.refl NoS wq).alloc (.cells #[.int .i64 0, .int .i64 0, .int .i64 0, .int .i64 0, .int .i64 0, .int .i64 0] 70))); obtain ⟨g3, hg1⟩ : ∃ g, wq.heap.size = g := ⟨_, rfl⟩; (try rw [hg1] at ne12); rw [hg1] at o1 p1 ⊢; clear hg1; generalize wq.alloc (.cells #[.int .i64 0, .int .i64 0, .int .i64 0, .int .i64 0, .int .i64 0, .int .i64 0] 70) = wq at *
                                  refine hkC.out _ _ ?_ (fun hHeld => ?_)
                                  · exact (ca_keep hS.tl.tl)
                                  clear hkC kC
                                  try simp only [Act.put, List.setIfInBounds_toArray, List.set_cons_zero, List.set_cons_succ]
                                  exact hD6 g3 g4 _ ⟨hS, p1, p2, o1, o2, ne12⟩
                            · intro g3 wq hR
                              obtain ⟨hS, p1, o1⟩ := hR
                              have hHeld : (fun w' => (w'.cell? ⟨F, 0, none⟩ = some (.int .i64 1) ∧ w'.cell? ⟨F, 1, none⟩ = some (.int .i64 1) ∧ w'.cell? ⟨F, 2, none⟩ = some (.int .i64 4) ∧ w'.cell? ⟨F, 3, none⟩ = some (.int .i64 2) ∧ w'.cell? ⟨F, 4, none⟩ = some (.int .i64 1)) ∧ (w'.cell? ⟨B, 0, none⟩ = some (.int .i64 1) ∧ w'.cell? ⟨B, 1, none⟩ = some (.int .i64 1) ∧ w'.cell? ⟨B, 2, none⟩ = some (.int .i64 4) ∧ w'.cell? ⟨B, 3, none⟩ = some (.int .i64 2) ∧ w'.cell? ⟨B, 4, none⟩ = some (.int .i64 1)) ∧ (w'.cell? ⟨R, 0, none⟩ = some (.int .i64 k1) ∧ w'.cell? ⟨R, 1, none⟩ = some (.int .i64 c1) ∧ w'.cell? ⟨R, 2, none⟩ = some (.int .i64 t1) ∧ w'.cell? ⟨R, 3, none⟩ = some (.int .i64 s1) ∧ w'.cell? ⟨R, 4, none⟩ = some (.int .i64 f1) ∧ w'.cell? ⟨R, 5, none⟩ = some (.int .i64 l1))) wq := ca_keep hS.tl.tl
                              refine wpAnyH_ready (rs := [8, 10]) (by kernel_rfl) (by simp) ?_
                              refine AllReadyH.cons (by simp only [List.getElem?_toArray, List.getElem?_cons_succ, List.getElem?_cons_zero]; rfl) (fun kC hkC => ?_) (AllReadyH.cons (by simp only [List.getElem?_toArray, List.getElem?_cons_succ, List.getElem?_cons_zero]; rfl) (fun kC hkC => ?_) AllReadyH.nil)
                              -- operation 8 of state 7
                              · go_simp
                                refine (rfed_any k1 c1 t1 s1 f1 l1 v HS1.out _).mono ?_; rw [HX.out]; unfold rowV; dsimp only; rintro e3 wq ⟨rfl, hkk⟩; have hS := hS.no hkk; (try have p1 := p1.no hkk); (try have p2 := p2.no hkk); clear hkk; (try go_wp2_with fail)
                                refine hkC.out _ _ ?_ (fun hHeld => ?_)
                                · exact (ca_keep hS.tl.tl)
                                clear hkC kC
                                try simp only [Act.put, List.setIfInBounds_toArray, List.set_cons_zero, List.set_cons_succ]
                                exact hD3 g3 _ ⟨hS, p1, o1⟩
                              -- operation 10 of state 7
                              · go_simp
                                have o2 := hS.fresh; (try have ne12 : g3 ≠ wq.heap.size := fun e => by (have := p1.lt; omega)); have p2 := Blk.new wq #[.int .i64 0, .int .i64 0, .int .i64 0, .int .i64 0, .int .i64 0, .int .i64 0] 76; have hS := hS.no ((Keeps.refl NoS wq).alloc (.cells #[.int .i64 0, .int .i64 0, .int .i64 0, .int .i64 0, .int .i64 0, .int .i64 0] 76)); (try have p1 := p1.no ((Keeps.refl NoS wq).alloc (.cells #[.int .i64 0, .int .i64 0, .int .i64 0, .int .i64 0, .int .i64 0, .int .i64 0] 76))); obtain ⟨g4, hg2⟩ : ∃ g, wq.heap.size = g := ⟨_, rfl⟩; (try rw [hg2] at ne12); rw [hg2] at o2 p2 ⊢; clear hg2; generalize wq.alloc (.cells #[.int .i64 0, .int .i64 0, .int .i64 0, .int .i64 0, .int .i64 0, .int .i64 0] 76) = wq at *
                                refine hkC.out _ _ ?_ (fun hHeld => ?_)
                                · exact (ca_keep hS.tl.tl)
                                clear hkC kC
                                try simp only [Act.put, List.setIfInBounds_toArray, List.set_cons_zero, List.set_cons_succ]
                                exact hD6 g3 g4 _ ⟨hS, p1, p2, o1, o2, ne12⟩
                          · intro g3 g4 wq hR
                            obtain ⟨hS, p1, p2, o1, o2, ne12⟩ := hR
                            have hHeld : (fun w' => (w'.cell? ⟨F, 0, none⟩ = some (.int .i64 1) ∧ w'.cell? ⟨F, 1, none⟩ = some (.int .i64 1) ∧ w'.cell? ⟨F, 2, none⟩ = some (.int .i64 4) ∧ w'.cell? ⟨F, 3, none⟩ = some (.int .i64 2) ∧ w'.cell? ⟨F, 4, none⟩ = some (.int .i64 1)) ∧ (w'.cell? ⟨B, 0, none⟩ = some (.int .i64 1) ∧ w'.cell? ⟨B, 1, none⟩ = some (.int .i64 1) ∧ w'.cell? ⟨B, 2, none⟩ = some (.int .i64 4) ∧ w'.cell? ⟨B, 3, none⟩ = some (.int .i64 2) ∧ w'.cell? ⟨B, 4, none⟩ = some (.int .i64 1)) ∧ (w'.cell? ⟨R, 0, none⟩ = some (.int .i64 k1) ∧ w'.cell? ⟨R, 1, none⟩ = some (.int .i64 c1) ∧ w'.cell? ⟨R, 2, none⟩ = some (.int .i64 t1) ∧ w'.cell? ⟨R, 3, none⟩ = some (.int .i64 s1) ∧ w'.cell? ⟨R, 4, none⟩ = some (.int .i64 f1) ∧ w'.cell? ⟨R, 5, none⟩ = some (.int .i64 l1))) wq := ca_keep hS.tl.tl
                            refine wpAnyH_ready (rs := [8]) (by kernel_rfl) (by simp) ?_
                            refine AllReadyH.cons (by simp only [List.getElem?_toArray, List.getElem?_cons_succ, List.getElem?_cons_zero]; rfl) (fun kC hkC => ?_) AllReadyH.nil
                            -- operation 8 of state 6
                            · go_simp
                              refine (rfed_any k1 c1 t1 s1 f1 l1 v HS1.out _).mono ?_; rw [HX.out]; unfold rowV; dsimp only; rintro e3 wq ⟨rfl, hkk⟩; have hS := hS.no hkk; (try have p1 := p1.no hkk); (try have p2 := p2.no hkk); clear hkk; (try go_wp2_with fail)
                              refine hkC.out _ _ ?_ (fun hHeld => ?_)
                              · exact (ca_keep hS.tl.tl)
                              clear hkC kC
                              try simp only [Act.put, List.setIfInBounds_toArray, List.set_cons_zero, List.set_cons_succ]
                              exact hD2 g3 g4 _ ⟨hS, p1, p2, o1, o2, ne12⟩
                        · intro wq hR
                          have hS := hR
                          have hHeld : (fun w' => (w'.cell? ⟨F, 0, none⟩ = some (.int .i64 1) ∧ w'.cell? ⟨F, 1, none⟩ = some (.int .i64 1) ∧ w'.cell? ⟨F, 2, none⟩ = some (.int .i64 4) ∧ w'.cell? ⟨F, 3, none⟩ = some (.int .i64 2) ∧ w'.cell? ⟨F, 4, none⟩ = some (.int .i64 1)) ∧ (w'.cell? ⟨B, 0, none⟩ = some (.int .i64 1) ∧ w'.cell? ⟨B, 1, none⟩ = some (.int .i64 1) ∧ w'.cell? ⟨B, 2, none⟩ = some (.int .i64 4) ∧ w'.cell? ⟨B, 3, none⟩ = some (.int .i64 2) ∧ w'.cell? ⟨B, 4, none⟩ = some (.int .i64 1)) ∧ (w'.cell? ⟨R, 0, none⟩ = some (.int .i64 k1) ∧ w'.cell? ⟨R, 1, none⟩ = some (.int .i64 c1) ∧ w'.cell? ⟨R, 2, none⟩ = some (.int .i64 t1) ∧ w'.cell? ⟨R, 3, none⟩ = some (.int .i64 s1) ∧ w'.cell? ⟨R, 4, none⟩ = some (.int .i64 f1) ∧ w'.cell? ⟨R, 5, none⟩ = some (.int .i64 l1))) wq := ca_keep hS.tl.tl
                          refine wpAnyH_ready (rs := [9, 10]) (by kernel_rfl) (by simp) ?_
                          refine AllReadyH.cons (by simp only [List.getElem?_toArray, List.getElem?_cons_succ, List.getElem?_cons_zero]; rfl) (fun kC hkC => ?_) (AllReadyH.cons (by simp only [List.getElem?_toArray, List.getElem?_cons_succ, List.getElem?_cons_zero]; rfl) (fun kC hkC => ?_) AllReadyH.nil)
                          -- operation 9 of state 5
                          · go_simp
                            have o1 := hS.fresh; (try have ne12 : wq.heap.size ≠ g4 := fun e => by (have := p2.lt; omega)); have p1 := Blk.new wq #[.int .i64 0, .int .i64 0, .int .i64 0, .int .i64 0, .int .i64 0, .int .i64 0] 70; have hS := hS.no ((Keeps.refl NoS wq).alloc (.cells #[.int .i64 0, .int .i64 0, .int .i64 0, .int .i64 0, .int .i64 0, .int .i64 0] 70)); (try have p2 := p2.no ((Keeps.refl NoS wq).alloc (.cells #[.int .i64 0, .int .i64 0, .int .i64 0, .int .i64 0, .int .i64 0, .int .i64 0] 70))); obtain ⟨g3, hg1⟩ : ∃ g, wq.heap.size = g := ⟨_, rfl⟩; (try rw [hg1] at ne12); rw [hg1] at o1 p1 ⊢; clear hg1; generalize wq.alloc (.cells #[.int .i64 0, .int .i64 0, .int .i64 0, .int .i64 0, .int .i64 0, .int .i64 0] 70) = wq at *
                            refine hkC.out _ _ ?_ (fun hHeld => ?_)
                            · exact (ca_keep hS.tl.tl)
                            clear hkC kC
                            try simp only [Act.put, List.setIfInBounds_toArray, List.set_cons_zero, List.set_cons_succ]
                            exact hD3 g3 _ ⟨hS, p1, o1⟩
                          -- operation 10 of state 5
                          · go_simp
                            have o2 := hS.fresh; (try have ne12 : g3 ≠ wq.heap.size := fun e => by (have := p1.lt; omega)); have p2 := Blk.new wq #[.int .i64 0, .int .i64 0, .int .i64 0, .int .i64 0, .int .i64 0, .int .i64 0] 76; have hS := hS.no ((Keeps.refl NoS wq).alloc (.cells #[.int .i64 0, .int .i64 0, .int .i64 0, .int .i64 0, .int .i64 0, .int .i64 0] 76)); (try have p1 := p1.no ((Keeps.refl NoS wq).alloc (.cells #[.int .i64 0, .int .i64 0, .int .i64 0, .int .i64 0, .int .i64 0, .int .i64 0] 76))); obtain ⟨g4, hg2⟩ : ∃ g, wq.heap.size = g := ⟨_, rfl⟩; (try rw [hg2] at ne12); rw [hg2] at o2 p2 ⊢; clear hg2; generalize wq.alloc (.cells #[.int .i64 0, .int .i64 0, .int .i64 0, .int .i64 0, .int .i64 0, .int .i64 0] 76) = wq at *
                            refine hkC.out _ _ ?_ (fun hHeld => ?_)
                            · exact (ca_keep hS.tl.tl)
                            clear hkC kC
                            try simp only [Act.put, List.setIfInBounds_toArray, List.set_cons_zero, List.set_cons_succ]
                            exact hD4 g4 _ ⟨hS, p2, o2⟩
                      · intro g4 wq hR
                        obtain ⟨hS, p2, o2⟩ := hR
                        have hHeld : (fun w' => (w'.cell? ⟨F, 0, none⟩ = some (.int .i64 1) ∧ w'.cell? ⟨F, 1, none⟩ = some (.int .i64 1) ∧ w'.cell? ⟨F, 2, none⟩ = some (.int .i64 4) ∧ w'.cell? ⟨F, 3, none⟩ = some (.int .i64 2) ∧ w'.cell? ⟨F, 4, none⟩ = some (.int .i64 1)) ∧ (w'.cell? ⟨B, 0, none⟩ = some (.int .i64 1) ∧ w'.cell? ⟨B, 1, none⟩ = some (.int .i64 1) ∧ w'.cell? ⟨B, 2, none⟩ = some (.int .i64 4) ∧ w'.cell? ⟨B, 3, none⟩ = some (.int .i64 2) ∧ w'.cell? ⟨B, 4, none⟩ = some (.int .i64 1)) ∧ (w'.cell? ⟨R, 0, none⟩ = some (.int .i64 k1) ∧ w'.cell? ⟨R, 1, none⟩ = some (.int .i64 c1) ∧ w'.cell? ⟨R, 2, none⟩ = some (.int .i64 t1) ∧ w'.cell? ⟨R, 3, none⟩ = some (.int .i64 s1) ∧ w'.cell? ⟨R, 4, none⟩ = some (.int .i64 f1) ∧ w'.cell? ⟨R, 5, none⟩ = some (.int .i64 l1))) wq := ca_keep hS.tl.tl
                        refine wpAnyH_ready (rs := [9]) (by kernel_rfl) (by simp) ?_
                        refine AllReadyH.cons (by simp only [List.getElem?_toArray, List.getElem?_cons_succ, List.getElem?_cons_zero]; rfl) (fun kC hkC => ?_) AllReadyH.nil
                        -- operation 9 of state 4
                        · go_simp
                          have o1 := hS.fresh; (try have ne12 : wq.heap.size ≠ g4 := fun e => by (have := p2.lt; omega)); have p1 := Blk.new wq #[.int .i64 0, .int .i64 0, .int .i64 0, .int .i64 0, .int .i64 0, .int .i64 0] 70; have hS := hS.no ((Keeps.refl NoS wq).alloc (.cells #[.int .i64 0, .int .i64 0, .int .i64 0, .int .i64 0, .int .i64 0, .int .i64 0] 70)); (try have p2 := p2.no ((Keeps.refl NoS wq).alloc (.cells #[.int .i64 0, .int .i64 0, .int .i64 0, .int .i64 0, .int .i64 0, .int .i64 0] 70))); obtain ⟨g3, hg1⟩ : ∃ g, wq.heap.size = g := ⟨_, rfl⟩; (try rw [hg1] at ne12); rw [hg1] at o1 p1 ⊢; clear hg1; generalize wq.alloc (.cells #[.int .i64 0, .int .i64 0, .int .i64 0, .int .i64 0, .int .i64 0, .int .i64 0] 70) = wq at *
                          refine hkC.out _ _ ?_ (fun hHeld => ?_)
                          · exact (ca_keep hS.tl.tl)
                          clear hkC kC
                          try simp only [Act.put, List.setIfInBounds_toArray, List.set_cons_zero, List.set_cons_succ]
                          exact hD2 g3 g4 _ ⟨hS, p1, p2, o1, o2, ne12⟩
                    · intro g3 wq hR
                      obtain ⟨hS, p1, o1⟩ := hR
                      have hHeld : (fun w' => (w'.cell? ⟨F, 0, none⟩ = some (.int .i64 1) ∧ w'.cell? ⟨F, 1, none⟩ = some (.int .i64 1) ∧ w'.cell? ⟨F, 2, none⟩ = some (.int .i64 4) ∧ w'.cell? ⟨F, 3, none⟩ = some (.int .i64 2) ∧ w'.cell? ⟨F, 4, none⟩ = some (.int .i64 1)) ∧ (w'.cell? ⟨B, 0, none⟩ = some (.int .i64 1) ∧ w'.cell? ⟨B, 1, none⟩ = some (.int .i64 1) ∧ w'.cell? ⟨B, 2, none⟩ = some (.int .i64 4) ∧ w'.cell? ⟨B, 3, none⟩ = some (.int .i64 2) ∧ w'.cell? ⟨B, 4, none⟩ = some (.int .i64 1)) ∧ (w'.cell? ⟨R, 0, none⟩ = some (.int .i64 k1) ∧ w'.cell? ⟨R, 1, none⟩ = some (.int .i64 c1) ∧ w'.cell? ⟨R, 2, none⟩ = some (.int .i64 t1) ∧ w'.cell? ⟨R, 3, none⟩ = some (.int .i64 s1) ∧ w'.cell? ⟨R, 4, none⟩ = some (.int .i64 f1) ∧ w'.cell? ⟨R, 5, none⟩ = some (.int .i64 l1))) wq := ca_keep hS.tl.tl
                      refine wpAnyH_ready (rs := [10]) (by kernel_rfl) (by simp) ?_
                      refine AllReadyH.cons (by simp only [List.getElem?_toArray, List.getElem?_cons_succ, List.getElem?_cons_zero]; rfl) (fun kC hkC => ?_) AllReadyH.nil
                      -- operation 10 of state 3
                      · go_simp
                        have o2 := hS.fresh; (try have ne12 : g3 ≠ wq.heap.size := fun e => by (have := p1.lt; omega)); have p2 := Blk.new wq #[.int .i64 0, .int .i64 0, .int .i64 0, .int .i64 0, .int .i64 0, .int .i64 0] 76; have hS := hS.no ((Keeps.refl NoS wq).alloc (.cells #[.int .i64 0, .int .i64 0, .int .i64 0, .int .i64 0, .int .i64 0, .int .i64 0] 76)); (try have p1 := p1.no ((Keeps.refl NoS wq).alloc (.cells #[.int .i64 0, .int .i64 0, .int .i64 0, .int .i64 0, .int .i64 0, .int .i64 0] 76))); obtain ⟨g4, hg2⟩ : ∃ g, wq.heap.size = g := ⟨_, rfl⟩; (try rw [hg2] at ne12); rw [hg2] at o2 p2 ⊢; clear hg2; generalize wq.alloc (.cells #[.int .i64 0, .int .i64 0, .int .i64 0, .int .i64 0, .int .i64 0, .int .i64 0] 76) = wq at *
                        refine hkC.out _ _ ?_ (fun hHeld => ?_)
                        · exact (ca_keep hS.tl.tl)
                        clear hkC kC
                        try simp only [Act.put, List.setIfInBounds_toArray, List.set_cons_zero, List.set_cons_succ]
                        exact hD2 g3 g4 _ ⟨hS, p1, p2, o1, o2, ne12⟩
                  · intro g3 g4 wq hR
                    obtain ⟨hS, p1, p2, o1, o2, ne12⟩ := hR
                    have hHeld : (fun w' => (w'.cell? ⟨F, 0, none⟩ = some (.int .i64 1) ∧ w'.cell? ⟨F, 1, none⟩ = some (.int .i64 1) ∧ w'.cell? ⟨F, 2, none⟩ = some (.int .i64 4) ∧ w'.cell? ⟨F, 3, none⟩ = some (.int .i64 2) ∧ w'.cell? ⟨F, 4, none⟩ = some (.int .i64 1)) ∧ (w'.cell? ⟨B, 0, none⟩ = some (.int .i64 1) ∧ w'.cell? ⟨B, 1, none⟩ = some (.int .i64 1) ∧ w'.cell? ⟨B, 2, none⟩ = some (.int .i64 4) ∧ w'.cell? ⟨B, 3, none⟩ = some (.int .i64 2) ∧ w'.cell? ⟨B, 4, none⟩ = some (.int .i64 1)) ∧ (w'.cell? ⟨R, 0, none⟩ = some (.int .i64 k1) ∧ w'.cell? ⟨R, 1, none⟩ = some (.int .i64 c1) ∧ w'.cell? ⟨R, 2, none⟩ = some (.int .i64 t1) ∧ w'.cell? ⟨R, 3, none⟩ = some (.int .i64 s1) ∧ w'.cell? ⟨R, 4, none⟩ = some (.int .i64 f1) ∧ w'.cell? ⟨R, 5, none⟩ = some (.int .i64 l1))) wq := ca_keep hS.tl.tl
                    refine wpAnyH_ready (rs := [11]) (by kernel_rfl) (by simp) ?_
                    refine AllReadyH.cons (by simp only [List.getElem?_toArray, List.getElem?_cons_succ, List.getElem?_cons_zero]; rfl) (fun kC hkC => ?_) AllReadyH.nil
                    -- operation 11 of state 2
                    · obtain ⟨y0, y1, y2, y3, y4, y5⟩ := p1.cells6; have yf0 := p1.free 0; have yf1 := p1.free 1; have yf2 := p1.free 2; have yf3 := p1.free 3; have yf4 := p1.free 4; have yf5 := p1.free 5; go_simp; have hS := hS.far o1 (kput6 g3 (.int .i64 xk) (.int .i64 xc) (.int .i64 xt) (.int .i64 xs) (.int .i64 xf) (.int .i64 xl)); have p2 := p2.far (kput6 g3 (.int .i64 xk) (.int .i64 xc) (.int .i64 xt) (.int .i64 xs) (.int .i64 xf) (.int .i64 xl)) ne12.symm; have p1 := p1.put6 (.int .i64 xk) (.int .i64 xc) (.int .i64 xt) (.int .i64 xs) (.int .i64 xf) (.int .i64 xl); generalize ((((((wq.setCell ⟨g3, 0, none⟩ (.int .i64 xk)).setCell ⟨g3, 1, none⟩ (.int .i64 xc)).setCell ⟨g3, 2, none⟩ (.int .i64 xt)).setCell ⟨g3, 3, none⟩ (.int .i64 xs)).setCell ⟨g3, 4, none⟩ (.int .i64 xf)).setCell ⟨g3, 5, none⟩ (.int .i64 xl)) = wq at *; clear y0 yf0 y1 yf1 y2 yf2 y3 yf3 y4 yf4 y5 yf5
                      refine hkC.out _ _ ?_ (fun hHeld => ?_)
                      · exact (ca_keep hS.tl.tl)
                      clear hkC kC
                      try simp only [Act.put, List.setIfInBounds_toArray, List.set_cons_zero, List.set_cons_succ]
                      exact hD1 g3 g4 _ ⟨hS, p1, p2, o1, o2, ne12⟩
                · intro g3 g4 wq hR
                  obtain ⟨hS, p1, p2, o1, o2, ne12⟩ := hR
                  have hHeld : (fun w' => (w'.cell? ⟨F, 0, none⟩ = some (.int .i64 1) ∧ w'.cell? ⟨F, 1, none⟩ = some (.int .i64 1) ∧ w'.cell? ⟨F, 2, none⟩ = some (.int .i64 4) ∧ w'.cell? ⟨F, 3, none⟩ = some (.int .i64 2) ∧ w'.cell? ⟨F, 4, none⟩ = some (.int .i64 1)) ∧ (w'.cell? ⟨B, 0, none⟩ = some (.int .i64 1) ∧ w'.cell? ⟨B, 1, none⟩ = some (.int .i64 1) ∧ w'.cell? ⟨B, 2, none⟩ = some (.int .i64 4) ∧ w'.cell? ⟨B, 3, none⟩ = some (.int .i64 2) ∧ w'.cell? ⟨B, 4, none⟩ = some (.int .i64 1)) ∧ (w'.cell? ⟨R, 0, none⟩ = some (.int .i64 k1) ∧ w'.cell? ⟨R, 1, none⟩ = some (.int .i64 c1) ∧ w'.cell? ⟨R, 2, none⟩ = some (.int .i64 t1) ∧ w'.cell? ⟨R, 3, none⟩ = some (.int .i64 s1) ∧ w'.cell? ⟨R, 4, none⟩ = some (.int .i64 f1) ∧ w'.cell? ⟨R, 5, none⟩ = some (.int .i64 l1))) wq := ca_keep hS.tl.tl
                  refine wpAnyH_ready (rs := [12]) (by kernel_rfl) (by simp) ?_
                  refine AllReadyH.cons (by simp only [List.getElem?_toArray, List.getElem?_cons_succ, List.getElem?_cons_zero]; rfl) (fun kC hkC => ?_) AllReadyH.nil
                  -- operation 12 of state 1
                  · obtain ⟨y0, y1, y2, y3, y4, y5⟩ := p2.cells6; have yf0 := p2.free 0; have yf1 := p2.free 1; have yf2 := p2.free 2; have yf3 := p2.free 3; have yf4 := p2.free 4; have yf5 := p2.free 5; go_simp; have hS := hS.far o2 (kput6 g4 (.int .i64 xk) (.int .i64 xc) (.int .i64 xt) (.int .i64 xs) (.int .i64 xf) (.int .i64 xl)); have p1 := p1.far (kput6 g4 (.int .i64 xk) (.int .i64 xc) (.int .i64 xt) (.int .i64 xs) (.int .i64 xf) (.int .i64 xl)) ne12; have p2 := p2.put6 (.int .i64 xk) (.int .i64 xc) (.int .i64 xt) (.int .i64 xs) (.int .i64 xf) (.int .i64 xl); generalize ((((((wq.setCell ⟨g4, 0, none⟩ (.int .i64 xk)).setCell ⟨g4, 1, none⟩ (.int .i64 xc)).setCell ⟨g4, 2, none⟩ (.int .i64 xt)).setCell ⟨g4, 3, none⟩ (.int .i64 xs)).setCell ⟨g4, 4, none⟩ (.int .i64 xf)).setCell ⟨g4, 5, none⟩ (.int .i64 xl)) = wq at *; clear y0 yf0 y1 yf1 y2 yf2 y3 yf3 y4 yf4 y5 yf5
                    refine hkC.out _ _ ?_ (fun hHeld => ?_)
                    · exact (ca_keep hS.tl.tl)
                    clear hkC kC
                    try simp only [Act.put, List.setIfInBounds_toArray, List.set_cons_zero, List.set_cons_succ]
                    exact hD0 g3 g4 _ ⟨hS, p1, p2, o1, o2, ne12⟩
              intro g3 g4 wq hR
              obtain ⟨hS, p1, p2, o1, o2, ne12⟩ := hR
              refine wpAnyH_done (by kernel_rfl) ?_ _
              go_wp2_with fail
              go_meet
              exact ⟨g3, g4, rfl, rfl, (hS.push o1.1 p1).push o2.1 p2⟩
            case rest =>
              clear HS HX
              obtain ⟨g3, g4, rfl, rfl, hS⟩ := hcut
              obtain ⟨zs, hzs⟩ : ∃ z, (startR k1 c1 t1).s = z := ⟨_, rfl⟩
              have hst : startR k1 c1 t1 = ⟨k1, c1, t1, zs, 0, 0⟩ := by rw [← hzs]; rfl
              obtain ⟨z0, z1, z2, z3, z4, z5⟩ := hS.tl.tl.tl.tl.tl.tl.b0.cells6
              have HST := Lib.hid hst; have HS := Lib.hid hS
              clear hst hzs hS
              go_wp2_with fail
              refine (startc_any k1 c1 t1 _).mono ?_
              rw [HST.out]; unfold rowV; dsimp only
              rintro e wz ⟨rfl, hkz⟩
              have h5 := (HS.out.no hkz).new #[.int .i64 k1, .int .i64 c1, .int .i64 t1, .int .i64 zs, .int .i64 0, .int .i64 0] 70
              clear HS z0 z1 z2 z3 z4 z5
              obtain ⟨g5, hg5⟩ : ∃ g, wz.heap.size = g := ⟨_, rfl⟩
              rw [hg5] at h5
              have HG5 := Lib.hid hg5; have H5 := Lib.hid h5
              clear hg5 h5 hkz
              go_wp2_with fail
              rw [HG5.out]
              generalize wz.alloc (.cells #[.int .i64 k1, .int .i64 c1, .int .i64 t1, .int .i64 zs, .int .i64 0, .int .i64 0] 70) = wy at *
              have hS := H5.out.no ((Keeps.refl NoS _).drew)
              clear H5 HG5
              refine wp_region_held_drew (S := (fun w' => (w'.cell? ⟨R, 0, none⟩ = some (.int .i64 k1) ∧ w'.cell? ⟨R, 1, none⟩ = some (.int .i64 c1) ∧ w'.cell? ⟨R, 2, none⟩ = some (.int .i64 t1) ∧ w'.cell? ⟨R, 3, none⟩ = some (.int .i64 s1) ∧ w'.cell? ⟨R, 4, none⟩ = some (.int .i64 f1) ∧ w'.cell? ⟨R, 5, none⟩ = some (.int .i64 l1)) ∧ (w'.cell? ⟨g1, 0, none⟩ = some (.int .i64 ak) ∧ w'.cell? ⟨g1, 1, none⟩ = some (.int .i64 aa) ∧ w'.cell? ⟨g1, 2, none⟩ = some (.int .i64 av)) ∧ (w'.cell? ⟨g2, 0, none⟩ = some (.int .i64 ak) ∧ w'.cell? ⟨g2, 1, none⟩ = some (.int .i64 aa) ∧ w'.cell? ⟨g2, 2, none⟩ = some (.int .i64 av)) ∧ (w'.cell? ⟨g3, 0, none⟩ = some (.int .i64 xk) ∧ w'.cell? ⟨g3, 1, none⟩ = some (.int .i64 xc) ∧ w'.cell? ⟨g3, 2, none⟩ = some (.int .i64 xt) ∧ w'.cell? ⟨g3, 3, none⟩ = some (.int .i64 xs) ∧ w'.cell? ⟨g3, 4, none⟩ = some (.int .i64 xf) ∧ w'.cell? ⟨g3, 5, none⟩ = some (.int .i64 xl)) ∧ (w'.cell? ⟨g4, 0, none⟩ = some (.int .i64 xk) ∧ w'.cell? ⟨g4, 1, none⟩ = some (.int .i64 xc) ∧ w'.cell? ⟨g4, 2, none⟩ = some (.int .i64 xt) ∧ w'.cell? ⟨g4, 3, none⟩ = some (.int .i64 xs) ∧ w'.cell? ⟨g4, 4, none⟩ = some (.int .i64 xf) ∧ w'.cell? ⟨g4, 5, none⟩ = some (.int .i64 xl)) ∧ (w'.cell? ⟨g5, 0, none⟩ = some (.int .i64 k1) ∧ w'.cell? ⟨g5, 1, none⟩ = some (.int .i64 c1) ∧ w'.cell? ⟨g5, 2, none⟩ = some (.int .i64 t1) ∧ w'.cell? ⟨g5, 3, none⟩ = some (.int .i64 zs) ∧ w'.cell? ⟨g5, 4, none⟩ = some (.int .i64 0) ∧ w'.cell? ⟨g5, 5, none⟩ = some (.int .i64 0)))) (by kernel_rfl) (ca_keep8 hS) (fun hHeld => ?_)
              refine wpAnyH_ready (rs := [0]) (by kernel_rfl) (by simp) ?_
              refine AllReadyH.cons (by simp only [List.getElem?_toArray, List.getElem?_cons_succ, List.getElem?_cons_zero]; rfl) (fun kC hkC => ?_) AllReadyH.nil
              go_simp
              refine (told20_any _).mono ?_; rintro e x1' ⟨rfl, hkk⟩; have hS := hS.no hkk; clear hkk
              (try go_wp2_with fail)
              refine hkC.out _ _ (ca_keep8 hS) (fun hHeld => ?_)
              clear hkC kC
              try simp only [Act.put, List.setIfInBounds_toArray, List.set_cons_zero, List.set_cons_succ]
              refine wpAnyH_take (i := 1) (v := ?_) (by simp only [List.getElem?_toArray, List.getElem?_cons_succ, List.getElem?_cons_zero]; rfl) (by kernel_rfl) (by kernel_rfl) (by kernel_rfl) (by exact fun _ _ _ h => h) (Or.inl ⟨by rfl, ?_⟩) hHeld ?_
              rotate_left
              · intro w hSw; (try dsimp only at hSw); go_simp; (try with_reducible rfl)
              try simp only [Act.put, List.setIfInBounds_toArray, List.set_cons_zero, List.set_cons_succ]
              refine wpAnyH_take (i := 2) (v := ?_) (by simp only [List.getElem?_toArray, List.getElem?_cons_succ, List.getElem?_cons_zero]; rfl) (by kernel_rfl) (by kernel_rfl) (by kernel_rfl) (by exact fun _ _ _ h => h) (Or.inl ⟨by rfl, ?_⟩) hHeld ?_
              rotate_left
              · intro w hSw; (try dsimp only at hSw); go_simp; (try with_reducible rfl)
              try simp only [Act.put, List.setIfInBounds_toArray, List.set_cons_zero, List.set_cons_succ]
              refine wpAnyH_take (i := 3) (v := ?_) (by simp only [List.getElem?_toArray, List.getElem?_cons_succ, List.getElem?_cons_zero]; rfl) (by kernel_rfl) (by kernel_rfl) (by kernel_rfl) (by exact fun _ _ _ h => h) (Or.inl ⟨by rfl, ?_⟩) hHeld ?_
              rotate_left
              · intro w hSw; (try dsimp only at hSw); go_simp; (try with_reducible rfl)
              try simp only [Act.put, List.setIfInBounds_toArray, List.set_cons_zero, List.set_cons_succ]
              refine wpAnyH_take (i := 4) (v := ?_) (by simp only [List.getElem?_toArray, List.getElem?_cons_succ, List.getElem?_cons_zero]; rfl) (by kernel_rfl) (by kernel_rfl) (by kernel_rfl) (by exact fun _ _ _ h => h) (Or.inl ⟨by rfl, ?_⟩) hHeld ?_
              rotate_left
              · intro w hSw; (try dsimp only at hSw); go_simp; (try with_reducible rfl)
              try simp only [Act.put, List.setIfInBounds_toArray, List.set_cons_zero, List.set_cons_succ]
              refine wpAnyH_take (i := 5) (v := ?_) (by simp only [List.getElem?_toArray, List.getElem?_cons_succ, List.getElem?_cons_zero]; rfl) (by kernel_rfl) (by kernel_rfl) (by kernel_rfl) (by exact fun _ _ _ h => h) (Or.inl ⟨by rfl, ?_⟩) hHeld ?_
              rotate_left
              · intro w hSw; (try dsimp only at hSw); go_simp; (try with_reducible rfl)
              try simp only [Act.put, List.setIfInBounds_toArray, List.set_cons_zero, List.set_cons_succ]
              refine wpAnyH_take (i := 6) (v := ?_) (by simp only [List.getElem?_toArray, List.getElem?_cons_succ, List.getElem?_cons_zero]; rfl) (by kernel_rfl) (by kernel_rfl) (by kernel_rfl) (by exact fun _ _ _ h => h) (Or.inl ⟨by rfl, ?_⟩) hHeld ?_
              rotate_left
              · intro w hSw; (try dsimp only at hSw); go_simp; (try with_reducible rfl)
              try simp only [Act.put, List.setIfInBounds_toArray, List.set_cons_zero, List.set_cons_succ]
              refine wpAnyH_take (i := 7) (v := ?_) (by simp only [List.getElem?_toArray, List.getElem?_cons_succ, List.getElem?_cons_zero]; rfl) (by kernel_rfl) (by kernel_rfl) (by kernel_rfl) (by exact fun _ _ _ h => h) (Or.inl ⟨by rfl, ?_⟩) hHeld ?_
              rotate_left
              · intro w hSw; (try dsimp only at hSw); go_simp; (try with_reducible rfl)
              try simp only [Act.put, List.setIfInBounds_toArray, List.set_cons_zero, List.set_cons_succ]
              refine wpAnyH_take (i := 8) (v := ?_) (by simp only [List.getElem?_toArray, List.getElem?_cons_succ, List.getElem?_cons_zero]; rfl) (by kernel_rfl) (by kernel_rfl) (by kernel_rfl) (by exact fun _ _ _ h => h) (Or.inl ⟨by rfl, ?_⟩) hHeld ?_
              rotate_left
              · intro w hSw; (try dsimp only at hSw); go_simp; (try with_reducible rfl)
              try simp only [Act.put, List.setIfInBounds_toArray, List.set_cons_zero, List.set_cons_succ]
              refine wpAnyH_take (i := 9) (v := ?_) (by simp only [List.getElem?_toArray, List.getElem?_cons_succ, List.getElem?_cons_zero]; rfl) (by kernel_rfl) (by kernel_rfl) (by kernel_rfl) (by exact fun _ _ _ h => h) (Or.inl ⟨by rfl, ?_⟩) hHeld ?_
              rotate_left
              · intro w hSw; (try dsimp only at hSw); go_simp; (try with_reducible rfl)
              try simp only [Act.put, List.setIfInBounds_toArray, List.set_cons_zero, List.set_cons_succ]
              refine wpAnyH_take (i := 10) (v := ?_) (by simp only [List.getElem?_toArray, List.getElem?_cons_succ, List.getElem?_cons_zero]; rfl) (by kernel_rfl) (by kernel_rfl) (by kernel_rfl) (by exact fun _ _ _ h => h) (Or.inl ⟨by rfl, ?_⟩) hHeld ?_
              rotate_left
              · intro w hSw; (try dsimp only at hSw); go_simp; (try with_reducible rfl)
              try simp only [Act.put, List.setIfInBounds_toArray, List.set_cons_zero, List.set_cons_succ]
              refine wpAnyH_take (i := 11) (v := ?_) (by simp only [List.getElem?_toArray, List.getElem?_cons_succ, List.getElem?_cons_zero]; rfl) (by kernel_rfl) (by kernel_rfl) (by kernel_rfl) (by exact fun _ _ _ h => h) (Or.inl ⟨by rfl, ?_⟩) hHeld ?_
              rotate_left
              · intro w hSw; (try dsimp only at hSw); go_simp; (try with_reducible rfl)
              try simp only [Act.put, List.setIfInBounds_toArray, List.set_cons_zero, List.set_cons_succ]
              refine wpAnyH_take (i := 12) (v := ?_) (by simp only [List.getElem?_toArray, List.getElem?_cons_succ, List.getElem?_cons_zero]; rfl) (by kernel_rfl) (by kernel_rfl) (by kernel_rfl) (by exact fun _ _ _ h => h) (Or.inl ⟨by rfl, ?_⟩) hHeld ?_
              rotate_left
              · intro w hSw; (try dsimp only at hSw); go_simp; (try with_reducible rfl)
              try simp only [Act.put, List.setIfInBounds_toArray, List.set_cons_zero, List.set_cons_succ]
              refine wpAnyH_take (i := 13) (v := ?_) (by simp only [List.getElem?_toArray, List.getElem?_cons_succ, List.getElem?_cons_zero]; rfl) (by kernel_rfl) (by kernel_rfl) (by kernel_rfl) (by exact fun _ _ _ h => h) (Or.inl ⟨by rfl, ?_⟩) hHeld ?_
              rotate_left
              · intro w hSw; (try dsimp only at hSw); go_simp; (try with_reducible rfl)
              try simp only [Act.put, List.setIfInBounds_toArray, List.set_cons_zero, List.set_cons_succ]
              refine wpAnyH_take (i := 14) (v := ?_) (by simp only [List.getElem?_toArray, List.getElem?_cons_succ, List.getElem?_cons_zero]; rfl) (by kernel_rfl) (by kernel_rfl) (by kernel_rfl) (by exact fun _ _ _ h => h) (Or.inl ⟨by rfl, ?_⟩) hHeld ?_
              rotate_left
              · intro w hSw; (try dsimp only at hSw); go_simp; (try with_reducible rfl)
              try simp only [Act.put, List.setIfInBounds_toArray, List.set_cons_zero, List.set_cons_succ]
              refine wpAnyH_take (i := 15) (v := ?_) (by simp only [List.getElem?_toArray, List.getElem?_cons_succ, List.getElem?_cons_zero]; rfl) (by kernel_rfl) (by kernel_rfl) (by kernel_rfl) (by exact fun _ _ _ h => h) (Or.inl ⟨by rfl, ?_⟩) hHeld ?_
              rotate_left
              · intro w hSw; (try dsimp only at hSw); go_simp; (try with_reducible rfl)
              try simp only [Act.put, List.setIfInBounds_toArray, List.set_cons_zero, List.set_cons_succ]
              refine wpAnyH_take (i := 16) (v := ?_) (by simp only [List.getElem?_toArray, List.getElem?_cons_succ, List.getElem?_cons_zero]; rfl) (by kernel_rfl) (by kernel_rfl) (by kernel_rfl) (by exact fun _ _ _ h => h) (Or.inl ⟨by rfl, ?_⟩) hHeld ?_
              rotate_left
              · intro w hSw; (try dsimp only at hSw); go_simp; (try with_reducible rfl)
              try simp only [Act.put, List.setIfInBounds_toArray, List.set_cons_zero, List.set_cons_succ]
              refine wpAnyH_take (i := 17) (v := ?_) (by simp only [List.getElem?_toArray, List.getElem?_cons_succ, List.getElem?_cons_zero]; rfl) (by kernel_rfl) (by kernel_rfl) (by kernel_rfl) (by exact fun _ _ _ h => h) (Or.inl ⟨by rfl, ?_⟩) hHeld ?_
              rotate_left
              · intro w hSw; (try dsimp only at hSw); go_simp; (try with_reducible rfl)
              try simp only [Act.put, List.setIfInBounds_toArray, List.set_cons_zero, List.set_cons_succ]
              refine wpAnyH_take (i := 18) (v := ?_) (by simp only [List.getElem?_toArray, List.getElem?_cons_succ, List.getElem?_cons_zero]; rfl) (by kernel_rfl) (by kernel_rfl) (by kernel_rfl) (by exact fun _ _ _ h => h) (Or.inl ⟨by rfl, ?_⟩) hHeld ?_
              rotate_left
              · intro w hSw; (try dsimp only at hSw); go_simp; (try with_reducible rfl)
              try simp only [Act.put, List.setIfInBounds_toArray, List.set_cons_zero, List.set_cons_succ]
              refine wpAnyH_take (i := 19) (v := ?_) (by simp only [List.getElem?_toArray, List.getElem?_cons_succ, List.getElem?_cons_zero]; rfl) (by kernel_rfl) (by kernel_rfl) (by kernel_rfl) (by exact fun _ _ _ h => h) (Or.inl ⟨by rfl, ?_⟩) hHeld ?_
              rotate_left
              · intro w hSw; (try dsimp only at hSw); go_simp; (try with_reducible rfl)
              try simp only [Act.put, List.setIfInBounds_toArray, List.set_cons_zero, List.set_cons_succ]
              refine wpAnyH_take (i := 20) (v := ?_) (by simp only [List.getElem?_toArray, List.getElem?_cons_succ, List.getElem?_cons_zero]; rfl) (by kernel_rfl) (by kernel_rfl) (by kernel_rfl) (by exact fun _ _ _ h => h) (Or.inl ⟨by rfl, ?_⟩) hHeld ?_
              rotate_left
              · intro w hSw; (try dsimp only at hSw); go_simp; (try with_reducible rfl)
              try simp only [Act.put, List.setIfInBounds_toArray, List.set_cons_zero, List.set_cons_succ]
              refine wpAnyH_take (i := 21) (v := ?_) (by simp only [List.getElem?_toArray, List.getElem?_cons_succ, List.getElem?_cons_zero]; rfl) (by kernel_rfl) (by kernel_rfl) (by kernel_rfl) (by exact fun _ _ _ h => h) (Or.inl ⟨by rfl, ?_⟩) hHeld ?_
              rotate_left
              · intro w hSw; (try dsimp only at hSw); go_simp; (try with_reducible rfl)
              try simp only [Act.put, List.setIfInBounds_toArray, List.set_cons_zero, List.set_cons_succ]
              refine wpAnyH_take (i := 22) (v := ?_) (by simp only [List.getElem?_toArray, List.getElem?_cons_succ, List.getElem?_cons_zero]; rfl) (by kernel_rfl) (by kernel_rfl) (by kernel_rfl) (by exact fun _ _ _ h => h) (Or.inl ⟨by rfl, ?_⟩) hHeld ?_
              rotate_left
              · intro w hSw; (try dsimp only at hSw); go_simp; (try with_reducible rfl)
              try simp only [Act.put, List.setIfInBounds_toArray, List.set_cons_zero, List.set_cons_succ]
              refine wpAnyH_take (i := 23) (v := ?_) (by simp only [List.getElem?_toArray, List.getElem?_cons_succ, List.getElem?_cons_zero]; rfl) (by kernel_rfl) (by kernel_rfl) (by kernel_rfl) (by exact fun _ _ _ h => h) (Or.inl ⟨by rfl, ?_⟩) hHeld ?_
              rotate_left
              · intro w hSw; (try dsimp only at hSw); go_simp; (try with_reducible rfl)
              try simp only [Act.put, List.setIfInBounds_toArray, List.set_cons_zero, List.set_cons_succ]
              refine wpAnyH_take (i := 25) (v := ?_) (by simp only [List.getElem?_toArray, List.getElem?_cons_succ, List.getElem?_cons_zero]; rfl) (by kernel_rfl) (by kernel_rfl) (by kernel_rfl) (by exact fun _ _ _ h => h) (Or.inl ⟨by rfl, ?_⟩) hHeld ?_
              rotate_left
              · intro w hSw; (try dsimp only at hSw); go_simp; (try with_reducible rfl)
              try simp only [Act.put, List.setIfInBounds_toArray, List.set_cons_zero, List.set_cons_succ]
              refine wpAnyH_ready (rs := [24]) (by kernel_rfl) (by simp) ?_
              refine AllReadyH.cons (by simp only [List.getElem?_toArray, List.getElem?_cons_succ, List.getElem?_cons_zero]; rfl) (fun kC hkC => ?_) AllReadyH.nil
              go_simp
              refine (flat_any xk xc xt xs xf xl _).mono ?_; rintro e x2' ⟨rfl, hkk⟩; have hS := hS.no hkk; clear hkk
              (try go_wp2_with fail)
              refine hkC.out _ _ (ca_keep8 hS) (fun hHeld => ?_)
              clear hkC kC
              try simp only [Act.put, List.setIfInBounds_toArray, List.set_cons_zero, List.set_cons_succ]
              refine wpAnyH_take (i := 26) (v := ?_) (by simp only [List.getElem?_toArray, List.getElem?_cons_succ, List.getElem?_cons_zero]; rfl) (by kernel_rfl) (by kernel_rfl) (by kernel_rfl) (by exact fun _ _ _ h => h) (Or.inl ⟨by rfl, ?_⟩) hHeld ?_
              rotate_left
              · intro w hSw; (try dsimp only at hSw); go_simp; (try with_reducible rfl)
              try simp only [Act.put, List.setIfInBounds_toArray, List.set_cons_zero, List.set_cons_succ]
              refine wpAnyH_take (i := 27) (v := ?_) (by simp only [List.getElem?_toArray, List.getElem?_cons_succ, List.getElem?_cons_zero]; rfl) (by kernel_rfl) (by kernel_rfl) (by kernel_rfl) (by exact fun _ _ _ h => h) (Or.inl ⟨by rfl, ?_⟩) hHeld ?_
              rotate_left
              · intro w hSw; (try dsimp only at hSw); go_simp; (try with_reducible rfl)
              try simp only [Act.put, List.setIfInBounds_toArray, List.set_cons_zero, List.set_cons_succ]
              refine wpAnyH_take (i := 28) (v := ?_) (by simp only [List.getElem?_toArray, List.getElem?_cons_succ, List.getElem?_cons_zero]; rfl) (by kernel_rfl) (by kernel_rfl) (by kernel_rfl) (by exact fun _ _ _ h => h) (Or.inl ⟨by rfl, ?_⟩) hHeld ?_
              rotate_left
              · intro w hSw; (try dsimp only at hSw); go_simp; (try with_reducible rfl)
              try simp only [Act.put, List.setIfInBounds_toArray, List.set_cons_zero, List.set_cons_succ]
              refine wpAnyH_take (i := 29) (v := ?_) (by simp only [List.getElem?_toArray, List.getElem?_cons_succ, List.getElem?_cons_zero]; rfl) (by kernel_rfl) (by kernel_rfl) (by kernel_rfl) (by exact fun _ _ _ h => h) (Or.inl ⟨by rfl, ?_⟩) hHeld ?_
              rotate_left
              · intro w hSw; (try dsimp only at hSw); go_simp; (try with_reducible rfl)
              try simp only [Act.put, List.setIfInBounds_toArray, List.set_cons_zero, List.set_cons_succ]
              refine wpAnyH_take (i := 31) (v := ?_) (by simp only [List.getElem?_toArray, List.getElem?_cons_succ, List.getElem?_cons_zero]; rfl) (by kernel_rfl) (by kernel_rfl) (by kernel_rfl) (by exact fun _ _ _ h => h) (Or.inl ⟨by rfl, ?_⟩) hHeld ?_
              rotate_left
              · intro w hSw; (try dsimp only at hSw); go_simp; (try with_reducible rfl)
              try simp only [Act.put, List.setIfInBounds_toArray, List.set_cons_zero, List.set_cons_succ]
              refine wpAnyH_take (i := 32) (v := ?_) (by simp only [List.getElem?_toArray, List.getElem?_cons_succ, List.getElem?_cons_zero]; rfl) (by kernel_rfl) (by kernel_rfl) (by kernel_rfl) (by exact fun _ _ _ h => h) (Or.inl ⟨by rfl, ?_⟩) hHeld ?_
              rotate_left
              · intro w hSw; (try dsimp only at hSw); go_simp; (try with_reducible rfl)
              try simp only [Act.put, List.setIfInBounds_toArray, List.set_cons_zero, List.set_cons_succ]
              refine wpAnyH_take (i := 33) (v := ?_) (by simp only [List.getElem?_toArray, List.getElem?_cons_succ, List.getElem?_cons_zero]; rfl) (by kernel_rfl) (by kernel_rfl) (by kernel_rfl) (by exact fun _ _ _ h => h) (Or.inl ⟨by rfl, ?_⟩) hHeld ?_
              rotate_left
              · intro w hSw; (try dsimp only at hSw); go_simp; (try with_reducible rfl)
              try simp only [Act.put, List.setIfInBounds_toArray, List.set_cons_zero, List.set_cons_succ]
              refine wpAnyH_take (i := 34) (v := ?_) (by simp only [List.getElem?_toArray, List.getElem?_cons_succ, List.getElem?_cons_zero]; rfl) (by kernel_rfl) (by kernel_rfl) (by kernel_rfl) (by exact fun _ _ _ h => h) (Or.inl ⟨by rfl, ?_⟩) hHeld ?_
              rotate_left
              · intro w hSw; (try dsimp only at hSw); go_simp; (try with_reducible rfl)
              try simp only [Act.put, List.setIfInBounds_toArray, List.set_cons_zero, List.set_cons_succ]
              refine wpAnyH_take (i := 35) (v := ?_) (by simp only [List.getElem?_toArray, List.getElem?_cons_succ, List.getElem?_cons_zero]; rfl) (by kernel_rfl) (by kernel_rfl) (by kernel_rfl) (by exact fun _ _ _ h => h) (Or.inl ⟨by rfl, ?_⟩) hHeld ?_
              rotate_left
              · intro w hSw; (try dsimp only at hSw); go_simp; (try with_reducible rfl)
              try simp only [Act.put, List.setIfInBounds_toArray, List.set_cons_zero, List.set_cons_succ]
              refine wpAnyH_take (i := 36) (v := ?_) (by simp only [List.getElem?_toArray, List.getElem?_cons_succ, List.getElem?_cons_zero]; rfl) (by kernel_rfl) (by kernel_rfl) (by kernel_rfl) (by exact fun _ _ _ h => h) (Or.inl ⟨by rfl, ?_⟩) hHeld ?_
              rotate_left
              · intro w hSw; (try dsimp only at hSw); go_simp; (try with_reducible rfl)
              try simp only [Act.put, List.setIfInBounds_toArray, List.set_cons_zero, List.set_cons_succ]
              refine wpAnyH_ready (rs := [30]) (by kernel_rfl) (by simp) ?_
              refine AllReadyH.cons (by simp only [List.getElem?_toArray, List.getElem?_cons_succ, List.getElem?_cons_zero]; rfl) (fun kC hkC => ?_) AllReadyH.nil
              go_simp
              refine (flat_any k1 c1 t1 zs 0 0 _).mono ?_; rintro e x3' ⟨rfl, hkk⟩; have hS := hS.no hkk; clear hkk
              (try go_wp2_with fail)
              refine hkC.out _ _ (ca_keep8 hS) (fun hHeld => ?_)
              clear hkC kC
              try simp only [Act.put, List.setIfInBounds_toArray, List.set_cons_zero, List.set_cons_succ]
              refine wpAnyH_ready (rs := [37]) (by kernel_rfl) (by simp) ?_
              refine AllReadyH.cons (by simp only [List.getElem?_toArray, List.getElem?_cons_succ, List.getElem?_cons_zero]; rfl) (fun kC hkC => ?_) AllReadyH.nil
              go_simp
              refine (rstart20_any k1 c1 t1 _).mono ?_; rw [HST.out]; unfold rowV; dsimp only; rintro e x4' ⟨rfl, hkk⟩; have hS := hS.no hkk; clear hkk
              (try go_wp2_with fail)
              refine hkC.out _ _ (ca_keep8 hS) (fun hHeld => ?_)
              clear hkC kC
              try simp only [Act.put, List.setIfInBounds_toArray, List.set_cons_zero, List.set_cons_succ]
              refine wpAnyH_take (i := 38) (v := ?_) (by simp only [List.getElem?_toArray, List.getElem?_cons_succ, List.getElem?_cons_zero]; rfl) (by kernel_rfl) (by kernel_rfl) (by kernel_rfl) (by exact fun _ _ _ h => h) (Or.inl ⟨by rfl, ?_⟩) hHeld ?_
              rotate_left
              · intro w hSw; (try dsimp only at hSw); go_simp; (try with_reducible rfl)
              try simp only [Act.put, List.setIfInBounds_toArray, List.set_cons_zero, List.set_cons_succ]
              refine wpAnyH_take (i := 39) (v := ?_) (by simp only [List.getElem?_toArray, List.getElem?_cons_succ, List.getElem?_cons_zero]; rfl) (by kernel_rfl) (by kernel_rfl) (by kernel_rfl) (by exact fun _ _ _ h => h) (Or.inl ⟨by rfl, ?_⟩) hHeld ?_
              rotate_left
              · intro w hSw; (try dsimp only at hSw); go_simp; (try with_reducible rfl)
              try simp only [Act.put, List.setIfInBounds_toArray, List.set_cons_zero, List.set_cons_succ]
              refine wpAnyH_take (i := 40) (v := ?_) (by simp only [List.getElem?_toArray, List.getElem?_cons_succ, List.getElem?_cons_zero]; rfl) (by kernel_rfl) (by kernel_rfl) (by kernel_rfl) (by exact fun _ _ _ h => h) (Or.inl ⟨by rfl, ?_⟩) hHeld ?_
              rotate_left
              · intro w hSw; (try dsimp only at hSw); go_simp; (try with_reducible rfl)
              try simp only [Act.put, List.setIfInBounds_toArray, List.set_cons_zero, List.set_cons_succ]
              refine wpAnyH_done (by kernel_rfl) ?_ _
              go_wp2_with fail
              go_ret
              exact ⟨by simp, hS.kp⟩
end Go.Proofs.Ytodaiogefgdcpaa
