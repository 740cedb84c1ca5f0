/- The walk of WordsAsks. -/
import Derived.Test.YtiomicjfbbkbaaaWordsLaws
import Derived.Deep.DeepCutAuto
import Derived.BigQuiet
import Derived.Deep.QuietTactic
namespace Go.Proofs.Ytiomicjfbbkbaaa
open Go.RowKit
theorem rwatched_lit (ms ml mt mc md l : Int) (a b : Bool) (w : World) : Calls Try.prog 15 #[.agg #[.int .i64 ms, .int .i64 ml, .int .i64 mt, .int .i64 mc, .int .i64 md], .int .i64 l, .bool a, .bool b] w fun e w' => ∃ v, e = .returned v ∧ RowI w' v (watchL ⟨ms, ml, mt, mc, md⟩ l a b) ∧ Keeps NoS w w' := rwatched_any ⟨ms, ml, mt, mc, md⟩ l a b w
theorem rmark_lit (ms ml mt mc md l : Int) (a b : Bool) (w : World) : Calls Try.prog 18 #[.agg #[.int .i64 ms, .int .i64 ml, .int .i64 mt, .int .i64 mc, .int .i64 md], .int .i64 l, .bool a, .bool b] w fun e w' => e = .returned (.tuple #[.int .i64 (markP ⟨ms, ml, mt, mc, md⟩ l a b), .int .i64 (markN ⟨ms, ml, mt, mc, md⟩ l a b)]) ∧ Keeps NoS w w' := rmark_any ⟨ms, ml, mt, mc, md⟩ l a b w
theorem held_lit (ms ml mt mc md l a v : Int) (w : World) : Calls Try.prog 20 #[.agg #[.int .i64 ms, .int .i64 ml, .int .i64 mt, .int .i64 mc, .int .i64 md], .int .i64 l, .int .i64 a, .int .i64 v] w fun e w' => e = .returned (.bool (heldB ⟨ms, ml, mt, mc, md⟩ l a v)) ∧ Keeps NoS w w' := held_any ⟨ms, ml, mt, mc, md⟩ l a v w
theorem rheld_lit (ms ml mt mc md l a v : Int) (w : World) : Calls Try.prog 21 #[.agg #[.int .i64 ms, .int .i64 ml, .int .i64 mt, .int .i64 mc, .int .i64 md], .int .i64 l, .int .i64 a, .int .i64 v] w fun e w' => e = .returned (.bool (heldB ⟨ms, ml, mt, mc, md⟩ l a v)) ∧ Keeps NoS w w' := rheld_any ⟨ms, ml, mt, mc, md⟩ l a v w
theorem ref_lit (ms ml mt mc md : Int) (w : World) : Calls Try.prog 12 #[.agg #[.int .i64 ms, .int .i64 ml, .int .i64 mt, .int .i64 mc, .int .i64 md]] w fun e w' => e = .returned (.agg #[.int .i64 ms, .int .i64 ml, .int .i64 mt, .int .i64 mc, .int .i64 md]) ∧ Keeps NoS w w' := ref_any ⟨ms, ml, mt, mc, md⟩ w
def TwoMaps (w : World) (B F : Nat) (ms ml mt mc md : Int) : Prop := MapAt w B ms ml mt mc md ∧ MapAt w F ms ml mt mc md
theorem TwoMaps.keep {w w' : World} {B F : Nat} {ms ml mt mc md : Int} (h : TwoMaps w B F ms ml mt mc md) (k : Keeps NoS w w') : TwoMaps w' B F ms ml mt mc md := ⟨h.1.keep k, h.2.keep k⟩
theorem TwoMaps.drew {w : World} {B F : Nat} {ms ml mt mc md : Int} (h : TwoMaps w B F ms ml mt mc md) : TwoMaps w.drew B F ms ml mt mc md := h
set_option maxHeartbeats 2000000 in
set_option maxRecDepth 100000 in
theorem wordsAsks_walk (w : World) (z0 : List Int) (e0 : z0.length = 5) (_f0 : ∀ k, k < z0.length → (Lit.int .i64 (z0.getD k 0)).wf = true) (a1 : Int) (_w1 : (Lit.int .i64 a1).wf = true) (rw_ rd : Bool) (a4 : Int) (_w4 : (Lit.int .i64 a4).wf = true) (a5 : Int) (_w5 : (Lit.int .i64 a5).wf = true) (lv : Bool) :
    Calls Try.prog 4 #[.agg (nums z0), .int .i64 a1, .bool rw_, .bool rd, .int .i64 a4, .int .i64 a5, .bool lv] w fun e w' => e = .returned (.bool true) ∧ Keeps NoS w w' := by
  obtain ⟨k0, k1, k2, k3, k4, rfl⟩ := list5 e0
  obtain ⟨n1, n2⟩ := u64_tmod_bd a1 6 (by decide)
  obtain ⟨l, hl⟩ : ∃ l, (IntKind.u64.wrap a1).tmod 6 = l := ⟨_, rfl⟩
  rw [hl] at n1 n2
  obtain ⟨⟨ms, ml, mt, mc, md⟩, hm⟩ : ∃ m, nearM [k0, k1, k2, k3, k4] = m := ⟨_, rfl⟩
  have HM := Lib.hid hm
  clear hm e0 _f0 _w1 _w4 _w5
  show Calls Try.prog 4 #[.agg #[.int .i64 k0, .int .i64 k1, .int .i64 k2, .int .i64 k3, .int .i64 k4], .int .i64 a1, .bool rw_, .bool rd, .int .i64 a4, .int .i64 a5, .bool lv] w _
  go_enter Try.func4, Try.ntmps4
  go_wp2_with fail
  refine (nearm_lit k0 k1 k2 k3 k4 _ HM.out _).mono ?_
  rintro e w1 ⟨rfl, hk1⟩
  unfold mapV
  dsimp only
  go_wp2_with fail
  have hmA := mapAt_new w1 ms ml mt mc md 26
  have hk2 : Keeps NoS w (w1.alloc (.cells #[.int .i64 ms, .int .i64 ml, .int .i64 mt, .int .i64 mc, .int .i64 md] 26)) := (((Keeps.refl NoS w).alloc _).trans hk1).alloc _
  obtain ⟨B, hB⟩ : ∃ B, w1.heap.size = B := ⟨_, rfl⟩
  rw [hB] at hmA
  rw [hB]
  clear hB hk1
  generalize w1.alloc (.cells #[.int .i64 ms, .int .i64 ml, .int .i64 mt, .int .i64 mc, .int .i64 md] 26) = W at *
  refine (ref_lit ms ml mt mc md _).mono ?_
  rintro e w3 ⟨rfl, hk3⟩
  go_wp2_with fail
  have hf := mapAt_new w3 ms ml mt mc md 32
  have hk4 := (hk2.trans hk3).alloc (.cells #[.int .i64 ms, .int .i64 ml, .int .i64 mt, .int .i64 mc, .int .i64 md] 32)
  have hT : TwoMaps (w3.alloc (.cells #[.int .i64 ms, .int .i64 ml, .int .i64 mt, .int .i64 mc, .int .i64 md] 32)) B w3.heap.size ms ml mt mc md := ⟨hmA.keep (hk3.alloc _), hf⟩
  obtain ⟨F, hF⟩ : ∃ F, w3.heap.size = F := ⟨_, rfl⟩
  rw [hF] at hT
  rw [hF]
  clear hF hmA hk2 hk3 hf HM
  generalize w3.alloc (.cells #[.int .i64 ms, .int .i64 ml, .int .i64 mt, .int .i64 mc, .int .i64 md] 32) = V at *
  obtain ⟨q, hq⟩ : ∃ q, l - 1 = q := ⟨_, rfl⟩
  go_region_held3 (fun w' => (w'.cell? ⟨B, 0, none⟩ = some (.int .i64 ms) ∧ w'.cell? ⟨B, 1, none⟩ = some (.int .i64 ml) ∧ w'.cell? ⟨B, 2, none⟩ = some (.int .i64 mt) ∧ w'.cell? ⟨B, 3, none⟩ = some (.int .i64 mc) ∧ w'.cell? ⟨B, 4, none⟩ = some (.int .i64 md)) ∧ (w'.cell? ⟨F, 0, none⟩ = some (.int .i64 ms) ∧ w'.cell? ⟨F, 1, none⟩ = some (.int .i64 ml) ∧ w'.cell? ⟨F, 2, none⟩ = some (.int .i64 mt) ∧ w'.cell? ⟨F, 3, none⟩ = some (.int .i64 mc) ∧ w'.cell? ⟨F, 4, none⟩ = some (.int .i64 md))) (first | exact hT | exact hT5 | exact hT6) (first
    | (go_at_call 14; (with_reducible refine (watched_lit ms ml mt mc md q rw_ rd _).mono ?_); rintro e w5 ⟨va, rfl, ra, hk5⟩; have hT5 := hT.drew.keep hk5; obtain ⟨pa, ca, rfl⟩ := ra.slice)
    | (go_at_call 15; (with_reducible refine (rwatched_lit ms ml mt mc md q rw_ rd _).mono ?_); rintro e w6 ⟨vb, rfl, rb, hk6⟩; have hT6 := hT5.keep hk6; have ra6 := ra.keep hk6; obtain ⟨pb, cb, rfl⟩ := rb.slice))
  have HK := Lib.hid (((hk4.trans ((Keeps.refl NoS _).drew)).trans hk5).trans hk6)
  have HT := Lib.hid hT6
  have RA := Lib.hid ra6; have RB := Lib.hid rb
  clear ra ra6 rb hk4 hk5 hk6 hT hT5 hT6 hq
  obtain ⟨WL, hWL⟩ : ∃ WL, watchL ⟨ms, ml, mt, mc, md⟩ q rw_ rd = WL := ⟨_, rfl⟩
  rw [hWL] at RA RB
  have hlen : WL.length ≤ 2 := by rw [← hWL]; unfold watchL; split; simp; split <;> simp
  rw [hWL]
  clear hWL
  generalize hn : WL.length = n at *
  have HN := Lib.hid hn
  clear hn
  go_wp2_with fail
  go_loopw [20] (fun i wr => ∃ j z : Nat, j ≤ n ∧ i = .int .i64 j ∧ wr = w6.drewN z) (fun i _ => n - (intOf i).toNat)
  case atStart => exact ⟨0, 0, by omega, rfl, rfl⟩
  case round =>
    obtain ⟨j, z, hj, rfl, rfl⟩ := hrel
    by_cases hlt : j < n
    · obtain ⟨ga, ka, ea, ra⟩ := RA.out.at (by have := HN.out; omega)
      obtain ⟨gb, kb, eb, rb⟩ := RB.out.at (by have := HN.out; omega)
      rw [HN.out] at ea eb
      simp only [Value.slice.injEq, true_and] at ea eb
      obtain ⟨rfl, rfl⟩ := ea
      obtain ⟨rfl, rfl⟩ := eb
      have x0 := ra j (by have := HN.out; omega)
      have y0 := rb j (by have := HN.out; omega)
      clear ra rb
      generalize WL.getD j 0 = x at *
      go_wp2_with fail
      go_quiet (fail)
      go_wp2_with fail
      go_roundw
      case rel => exact ⟨j + 1, _, by omega, by go_num, rfl⟩
      case measure => simp [intOf]; omega
    · have hT7 := HT.out.keep ((Keeps.refl NoS w6).drewN z)
      obtain ⟨g0, g1, g2, g3, g4⟩ := hT7.1
      have HK7 := Lib.hid (HK.out.trans ((Keeps.refl NoS w6).drewN z))
      have HT7 := Lib.hid hT7
      clear HK HT RA RB hT7
      generalize w6.drewN z = X at *
      go_upto_if 69 with fail
      go_cut [21] (fun s wx => ∃ p : Int, s = .int .i64 p ∧ Keeps NoS X wx)
      case first =>
        go_wp2_with (go_at_call 16; refine (lock_lit ms ml mt mc md _ 4 _ rfl _).mono ?_; rintro e w7 ⟨rfl, hk7⟩)
        all_goals (go_meet; first | exact ⟨_, rfl, hk7⟩ | exact ⟨_, rfl, Keeps.refl _ _⟩)
      case rest =>
        obtain ⟨p, rfl, hk8⟩ := hcut
        clear g0 g1 g2 g3 g4
        have hT8 := HT7.out.keep hk8
        have HK8 := Lib.hid (HK7.out.trans hk8)
        obtain ⟨g0, g1, g2, g3, g4⟩ := hT8.1
        obtain ⟨f0, f1, f2, f3, f4⟩ := hT8.2
        clear hk8 HT7 HK7
        obtain ⟨mp, hmp⟩ : ∃ mp, markP ⟨ms, ml, mt, mc, md⟩ q rd lv = mp := ⟨_, rfl⟩
        obtain ⟨mn, hmn⟩ : ∃ mn, markN ⟨ms, ml, mt, mc, md⟩ q rd lv = mn := ⟨_, rfl⟩
        obtain ⟨hb, hhb⟩ : ∃ hb, heldB ⟨ms, ml, mt, mc, md⟩ q p a5 = hb := ⟨_, rfl⟩
        have MP := Lib.hid hmp; have MN := Lib.hid hmn; have HB := Lib.hid hhb
        have HT8 := Lib.hid hT8
        clear hmp hmn hhb hT8
        go_wp2_with (first
          | (go_at_call 17; (with_reducible refine (mark_lit ms ml mt mc md q rd lv _).mono ?_); rw [MP.out, MN.out]; rintro e w9 ⟨rfl, hk9⟩; have hT9 := HT8.out.keep hk9; obtain ⟨j0, j1, j2, j3, j4⟩ := hT9.2)
          | (go_at_call 18; (with_reducible refine (rmark_lit ms ml mt mc md q rd lv _).mono ?_); rw [MP.out, MN.out]; rintro e w10 ⟨rfl, hk10⟩; have hT10 := hT9.keep hk10))
        clear g0 g1 g2 g3 g4 f0 f1 f2 f3 f4 j0 j1 j2 j3 j4
        go_region_held3 (fun w' => (w'.cell? ⟨B, 0, none⟩ = some (.int .i64 ms) ∧ w'.cell? ⟨B, 1, none⟩ = some (.int .i64 ml) ∧ w'.cell? ⟨B, 2, none⟩ = some (.int .i64 mt) ∧ w'.cell? ⟨B, 3, none⟩ = some (.int .i64 mc) ∧ w'.cell? ⟨B, 4, none⟩ = some (.int .i64 md)) ∧ (w'.cell? ⟨F, 0, none⟩ = some (.int .i64 ms) ∧ w'.cell? ⟨F, 1, none⟩ = some (.int .i64 ml) ∧ w'.cell? ⟨F, 2, none⟩ = some (.int .i64 mt) ∧ w'.cell? ⟨F, 3, none⟩ = some (.int .i64 mc) ∧ w'.cell? ⟨F, 4, none⟩ = some (.int .i64 md))) (first | exact hT10 | exact hT11 | exact hT12 | exact hT13) (first
          | (go_at_call 19; refine (told17_any _).mono ?_; rintro e w11 ⟨rfl, hk11⟩; have hT11 := hT10.drew.keep hk11)
          | (go_at_call 20; (with_reducible refine (held_lit ms ml mt mc md q p a5 _).mono ?_); rw [HB.out]; rintro e w12 ⟨rfl, hk12⟩; have hT12 := hT11.keep hk12)
          | (go_at_call 21; (with_reducible refine (rheld_lit ms ml mt mc md q p a5 _).mono ?_); rw [HB.out]; rintro e w13 ⟨rfl, hk13⟩; have hT13 := hT12.keep hk13))
        go_wp2_with fail
        go_ret
        exact ⟨rfl, (((((HK8.out.trans hk9).trans hk10).trans ((Keeps.refl NoS _).drew)).trans hk11).trans hk12).trans hk13⟩
end Go.Proofs.Ytiomicjfbbkbaaa

