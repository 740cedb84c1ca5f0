/- The document's rows at layer 20's map. -/
import Derived.Test.YtodaiogefgdcpaaCondqLaw
namespace Go.Proofs.Ytodaiogefgdcpaa
open Go.RowKit
theorem rslot_any (h n : Int) (h0 : 0 ≤ h) (h1 : h ≤ 1000) (w : World) : Calls Try.prog 82 #[.int .i64 h, .int .i64 n] w fun e w' => e = .returned (.int .i64 (h + 2 + n % 4)) ∧ Keeps NoS w w' := by
  have a3 := and_3 n
  obtain ⟨q, hq⟩ : ∃ q, n % 4 = q := ⟨_, rfl⟩
  have hq0 : 0 ≤ q := by omega
  have hq1 : q < 4 := by omega
  rw [hq] at a3
  rw [hq]
  clear hq
  go_enter Try.func82, Try.ntmps82
  go_wp2_with fail
  go_ret
  exact ⟨rfl, Keeps.refl _ _⟩
def ZR (B : Nat) (w : World) : Prop := w.heap[B + 2]? = some (.cells #[.int .i64 0, .int .i64 0, .int .i64 0] 74 (0, 0))
theorem ZR.facts {B : Nat} {w : World} (h : ZR B w) : (w.frozen? ⟨B + 2, 0, none⟩ = false ∧ w.frozen? ⟨B + 2, 1, none⟩ = false ∧ w.frozen? ⟨B + 2, 2, none⟩ = false) ∧ (w.cell? ⟨(B + 2), 0, none⟩ = some (.int .i64 0) ∧ w.cell? ⟨(B + 2), 1, none⟩ = some (.int .i64 0) ∧ w.cell? ⟨(B + 2), 2, none⟩ = some (.int .i64 0)) ∧ B + 2 < w.heap.size :=
  ⟨⟨blk_free h 0, blk_free h 1, blk_free h 2⟩, ⟨by rw [blk_cell h]; rfl, by rw [blk_cell h]; rfl, by rw [blk_cell h]; rfl⟩, blk_lt h⟩
theorem ZR.no {B : Nat} {w w' : World} (h : ZR B w) (k : Keeps NoS w w') : ZR B w' := k.blk h (fun f => f)
theorem ZR.drew {B : Nat} {w : World} (h : ZR B w) : ZR B w.drew := h
theorem zr_new (w : World) (k c t s f l : Int) : ∃ W, ((w.alloc (.cells #[.int .i64 1, .int .i64 1, .int .i64 4, .int .i64 2, .int .i64 1] 43)).alloc (.cells #[.int .i64 k, .int .i64 c, .int .i64 t, .int .i64 s, .int .i64 f, .int .i64 l] 76)).alloc (.cells #[.int .i64 0, .int .i64 0, .int .i64 0] 74) = W ∧ MR w.heap.size 1 1 4 2 1 k c t s f l W ∧ ZR w.heap.size W ∧ Keeps NoS w W := by
  refine ⟨_, rfl, (mr_new w 1 1 4 2 1 k c t s f l 43 76).no ((Keeps.refl NoS _).alloc _), ?_, (((Keeps.refl NoS w).alloc _).alloc _).alloc _⟩
  have h : (((w.alloc (.cells #[.int .i64 1, .int .i64 1, .int .i64 4, .int .i64 2, .int .i64 1] 43)).alloc (.cells #[.int .i64 k, .int .i64 c, .int .i64 t, .int .i64 s, .int .i64 f, .int .i64 l] 76)).alloc (.cells #[.int .i64 0, .int .i64 0, .int .i64 0] 74)).heap[((w.alloc (.cells #[.int .i64 1, .int .i64 1, .int .i64 4, .int .i64 2, .int .i64 1] 43)).alloc (.cells #[.int .i64 k, .int .i64 c, .int .i64 t, .int .i64 s, .int .i64 f, .int .i64 l] 76)).heap.size]? = some (.cells #[.int .i64 0, .int .i64 0, .int .i64 0] 74 (0, 0)) := heap_alloc_new _ _
  have h3 : ((w.alloc (.cells #[.int .i64 1, .int .i64 1, .int .i64 4, .int .i64 2, .int .i64 1] 43)).alloc (.cells #[.int .i64 k, .int .i64 c, .int .i64 t, .int .i64 s, .int .i64 f, .int .i64 l] 76)).heap.size = w.heap.size + 2 := by simp
  rw [h3] at h
  exact h
theorem fits20_no {k c t s f l : Int} (h : fitsB m20 ⟨k, c, t, s, f, l⟩ = true) : ∃ C T : Nat, C < 2 ∧ T < 4 ∧ c = C ∧ t = T := by
  unfold fitsB at h
  simp only [Bool.and_eq_true, decide_eq_true_eq] at h
  have h1 : 0 ≤ c ∧ c < 2 := by
    by_cases hi : 0 ≤ c ∧ c < 2
    · exact hi
    · have := h.1
      unfold condP at this
      rw [inB_not hi] at this
      simp at this
  have h2 : 0 ≤ t ∧ t < 4 := by
    by_cases hi : 0 ≤ t ∧ t < 4
    · exact hi
    · have := h.2
      unfold flagP at this
      rw [inB_not hi] at this
      simp at this
  exact ⟨c.toNat, t.toNat, by omega, by omega, by omega, by omega⟩
set_option maxHeartbeats 16000000 in
set_option maxRecDepth 100000 in
theorem rnext_any (k c t s f l : Int) (hs : s ≤ 9223372036854775807) (w : World) : Calls Try.prog 42 #[.agg #[.int .i64 1, .int .i64 1, .int .i64 4, .int .i64 2, .int .i64 1], .agg #[.int .i64 k, .int .i64 c, .int .i64 t, .int .i64 s, .int .i64 f, .int .i64 l]] w fun e w' => e = .returned (askV (nextA m20 ⟨k, c, t, s, f, l⟩)) ∧ Keeps NoS w w' := by
  obtain ⟨W, hW, hmr, hza, hk⟩ := zr_new w k c t s f l
  obtain ⟨B, hB⟩ : ∃ B, w.heap.size = B := ⟨_, rfl⟩
  rw [hB] at hmr hza
  have HMR := Lib.hid hmr; have HZA := Lib.hid hza; have HB := Lib.hid hB; have HK := Lib.hid hk; have HW := Lib.hid hW
  have hm0 := hmr.drew.out
  clear hW hza hk hB
  obtain ⟨hd, hhd⟩ : ∃ x, condP m20 c 0 = x := ⟨_, rfl⟩
  obtain ⟨ow, how⟩ : ∃ x, flagP m20 t = x := ⟨_, rfl⟩
  have hft : fitsB m20 ⟨k, c, t, s, f, l⟩ = (decide (0 ≤ hd) && decide (0 ≤ ow)) := by unfold fitsB; dsimp only; rw [hhd, how]
  have HHD := Lib.hid hhd; have HOW := Lib.hid how
  clear hhd how hmr
  by_cases d1 : 0 ≤ hd
  case neg =>
    have d1' : decide (hd < 0) = true := decide_eq_true (by omega)
    have e : nextA m20 ⟨k, c, t, s, f, l⟩ = ⟨0, 0, 0⟩ := by unfold nextA; rw [hft, decide_eq_false d1]; rfl
    rw [e]
    clear e hft hs d1
    unfold askV
    dsimp only
    go_enter Try.func42, Try.ntmps42
    go_wp2_with fail
    rw [HW.out, HB.out]
    go_region_held3 (fun w' => (w'.cell? ⟨B, 0, none⟩ = some (.int .i64 1) ∧ w'.cell? ⟨B, 1, none⟩ = some (.int .i64 1) ∧ w'.cell? ⟨B, 2, none⟩ = some (.int .i64 4) ∧ w'.cell? ⟨B, 3, none⟩ = some (.int .i64 2) ∧ w'.cell? ⟨B, 4, none⟩ = some (.int .i64 1)) ∧ (w'.cell? ⟨(B + 1), 0, none⟩ = some (.int .i64 k) ∧ w'.cell? ⟨(B + 1), 1, none⟩ = some (.int .i64 c) ∧ w'.cell? ⟨(B + 1), 2, none⟩ = some (.int .i64 t) ∧ w'.cell? ⟨(B + 1), 3, none⟩ = some (.int .i64 s) ∧ w'.cell? ⟨(B + 1), 4, none⟩ = some (.int .i64 f) ∧ w'.cell? ⟨(B + 1), 5, none⟩ = some (.int .i64 l))) (first | exact hm0 | exact hm1.out | exact hm2.out) (first
      | (go_at_call 80; refine (rcond_lit 1 1 4 2 1 c 0 hd HHD.out _).mono ?_; rintro e w1 ⟨rfl, hk1⟩; have hm1 := HMR.out.drew.no hk1; have hz1 := HZA.out.drew.no hk1)
      | (go_at_call 81; refine (rflag_lit 1 1 4 2 1 t ow HOW.out _).mono ?_; rintro e w2 ⟨rfl, hk2⟩; have hm2 := hm1.no hk2; have hz2 := hz1.no hk2; obtain ⟨⟨a0, a1, a2, a3, a4⟩, b0, b1, b2, b3, b4, b5⟩ := hm2.out; obtain ⟨⟨g0, g1, g2⟩, ⟨z0, z1, z2⟩, zl⟩ := hz2.facts))
    have HM2 := Lib.hid hm2; have HZ2 := Lib.hid hz2
    clear hm0 hm1 hm2 hz1 hz2
    go_wp2_with fail
    refine bodyPost_ret (v := .agg #[.int .i64 0, .int .i64 0, .int .i64 0]) (by simp [results, Try.results42, go_sem, *]) rfl ⟨rfl, ?_⟩
    repeat (first | (with_reducible exact ((HK.out.drew.trans hk1).trans hk2)) | refine kset HB.out ?_ _ (by show B ≤ _; dsimp only; omega) _)
  have d1' : decide (hd < 0) = false := decide_eq_false (by omega)
  by_cases d2 : 0 ≤ ow
  case neg =>
    have d2' : decide (ow < 0) = true := decide_eq_true (by omega)
    have e : nextA m20 ⟨k, c, t, s, f, l⟩ = ⟨0, 0, 0⟩ := by unfold nextA; rw [hft, decide_eq_false d2, Bool.and_false]; rfl
    rw [e]
    clear e hft hs d1 d2
    unfold askV
    dsimp only
    go_enter Try.func42, Try.ntmps42
    go_wp2_with fail
    rw [HW.out, HB.out]
    go_region_held3 (fun w' => (w'.cell? ⟨B, 0, none⟩ = some (.int .i64 1) ∧ w'.cell? ⟨B, 1, none⟩ = some (.int .i64 1) ∧ w'.cell? ⟨B, 2, none⟩ = some (.int .i64 4) ∧ w'.cell? ⟨B, 3, none⟩ = some (.int .i64 2) ∧ w'.cell? ⟨B, 4, none⟩ = some (.int .i64 1)) ∧ (w'.cell? ⟨(B + 1), 0, none⟩ = some (.int .i64 k) ∧ w'.cell? ⟨(B + 1), 1, none⟩ = some (.int .i64 c) ∧ w'.cell? ⟨(B + 1), 2, none⟩ = some (.int .i64 t) ∧ w'.cell? ⟨(B + 1), 3, none⟩ = some (.int .i64 s) ∧ w'.cell? ⟨(B + 1), 4, none⟩ = some (.int .i64 f) ∧ w'.cell? ⟨(B + 1), 5, none⟩ = some (.int .i64 l))) (first | exact hm0 | exact hm1.out | exact hm2.out) (first
      | (go_at_call 80; refine (rcond_lit 1 1 4 2 1 c 0 hd HHD.out _).mono ?_; rintro e w1 ⟨rfl, hk1⟩; have hm1 := HMR.out.drew.no hk1; have hz1 := HZA.out.drew.no hk1)
      | (go_at_call 81; refine (rflag_lit 1 1 4 2 1 t ow HOW.out _).mono ?_; rintro e w2 ⟨rfl, hk2⟩; have hm2 := hm1.no hk2; have hz2 := hz1.no hk2; obtain ⟨⟨a0, a1, a2, a3, a4⟩, b0, b1, b2, b3, b4, b5⟩ := hm2.out; obtain ⟨⟨g0, g1, g2⟩, ⟨z0, z1, z2⟩, zl⟩ := hz2.facts))
    have HM2 := Lib.hid hm2; have HZ2 := Lib.hid hz2
    clear hm0 hm1 hm2 hz1 hz2
    go_wp2_with fail
    refine bodyPost_ret (v := .agg #[.int .i64 0, .int .i64 0, .int .i64 0]) (by simp [results, Try.results42, go_sem, *]) rfl ⟨rfl, ?_⟩
    repeat (first | (with_reducible exact ((HK.out.drew.trans hk1).trans hk2)) | refine kset HB.out ?_ _ (by show B ≤ _; dsimp only; omega) _)
  have d2' : decide (ow < 0) = false := decide_eq_false (by omega)
  obtain ⟨C, T, hC, hT, rfl, rfl⟩ := fits20_no (hft.trans (by rw [decide_eq_true d1, decide_eq_true d2]; rfl))
  have hf1 : fitsB m20 ⟨k, C, T, s, f, l⟩ = true := fits20 hC hT k s f l
  have ehd : hd = 29 + 6 * (C : Int) := by rw [← HHD.out]; exact (cnd20 C hC 0 (by omega)).trans (by omega)
  have eow : ow = 25 + (T : Int) := by rw [← HOW.out]; exact flg20 T hT
  have hc1 : condP m20 C 1 = hd + 1 := by rw [ehd]; exact (cnd20 C hC 1 (by omega)).trans (by omega)
  have hsl : ∀ n, slotP m20 C n = hd + 2 + n % 4 := by
    intro n; rw [slt20 hC, ehd]; unfold sl20; omega
  have hd0 : 0 ≤ hd := d1
  have hd9 : hd ≤ 1000 := by omega
  have hfa : ∀ k s f l, fitsB m20 ⟨k, C, T, s, f, l⟩ = true := fun k s f l => fits20 hC hT k s f l
  clear hft d1 d2 ehd hf1
  by_cases k1 : k = 1
  · subst k1
    by_cases s0 : s = 0
    · subst s0
      have e : nextA m20 ⟨1, C, T, 0, f, l⟩ = ⟨1, hd + 1, 0⟩ := by simp [nextA, sleepsA, hfa, hc1]
      rw [e]
      clear e eow hs hfa hc1 hsl
      unfold askV
      dsimp only
      go_enter Try.func42, Try.ntmps42
      go_wp2_with fail
      rw [HW.out, HB.out]
      go_region_held3 (fun w' => (w'.cell? ⟨B, 0, none⟩ = some (.int .i64 1) ∧ w'.cell? ⟨B, 1, none⟩ = some (.int .i64 1) ∧ w'.cell? ⟨B, 2, none⟩ = some (.int .i64 4) ∧ w'.cell? ⟨B, 3, none⟩ = some (.int .i64 2) ∧ w'.cell? ⟨B, 4, none⟩ = some (.int .i64 1)) ∧ (w'.cell? ⟨(B + 1), 0, none⟩ = some (.int .i64 1) ∧ w'.cell? ⟨(B + 1), 1, none⟩ = some (.int .i64 C) ∧ w'.cell? ⟨(B + 1), 2, none⟩ = some (.int .i64 T) ∧ w'.cell? ⟨(B + 1), 3, none⟩ = some (.int .i64 0) ∧ w'.cell? ⟨(B + 1), 4, none⟩ = some (.int .i64 f) ∧ w'.cell? ⟨(B + 1), 5, none⟩ = some (.int .i64 l))) (first | exact hm0 | exact hm1.out | exact hm2.out) (first
        | (go_at_call 80; refine (rcond_lit 1 1 4 2 1 C 0 hd HHD.out _).mono ?_; rintro e w1 ⟨rfl, hk1⟩; have hm1 := HMR.out.drew.no hk1; have hz1 := HZA.out.drew.no hk1)
        | (go_at_call 81; refine (rflag_lit 1 1 4 2 1 T ow HOW.out _).mono ?_; rintro e w2 ⟨rfl, hk2⟩; have hm2 := hm1.no hk2; have hz2 := hz1.no hk2; obtain ⟨⟨a0, a1, a2, a3, a4⟩, b0, b1, b2, b3, b4, b5⟩ := hm2.out; obtain ⟨⟨g0, g1, g2⟩, ⟨z0, z1, z2⟩, zl⟩ := hz2.facts))
      have HM2 := Lib.hid hm2; have HZ2 := Lib.hid hz2
      clear hm0 hm1 hm2 hz1 hz2
      go_wp2_with fail
      refine bodyPost_ret (v := .agg #[.int .i64 1, .int .i64 (hd + 1), .int .i64 0]) (by simp [results, Try.results42, go_sem, *]) rfl ⟨rfl, ?_⟩
      repeat (first | (with_reducible exact ((HK.out.drew.trans hk1).trans hk2)) | refine kset HB.out ?_ _ (by show B ≤ _; dsimp only; omega) _)
    · by_cases s1 : s = 1
      · subst s1
        have e : nextA m20 ⟨1, C, T, 1, f, l⟩ = ⟨2, hd + 2 + l % 4, (T : Int) + 1⟩ := by
          simp only [nextA, sleepsA, hfa, hsl]
          rw [wrap64_id (by omega) (by omega)]
          simp
        rw [e]
        have hwT : IntKind.i64.wrap ((T : Int) + 1) = (T : Int) + 1 := (IntWalk.i64_left _).trans (wrap64_id (by omega) (by omega))
        obtain ⟨x, hx⟩ : ∃ x, hd + 2 + l % 4 = x := ⟨_, rfl⟩
        have hrs := rslot_any hd l hd0 hd9
        rw [hx] at hrs
        rw [hx]
        have HRS := Lib.hid hrs
        clear e eow hs hfa hc1 hsl hx hrs s0
        unfold askV
        dsimp only
        go_enter Try.func42, Try.ntmps42
        go_wp2_with fail
        rw [HW.out, HB.out]
        go_region_held3 (fun w' => (w'.cell? ⟨B, 0, none⟩ = some (.int .i64 1) ∧ w'.cell? ⟨B, 1, none⟩ = some (.int .i64 1) ∧ w'.cell? ⟨B, 2, none⟩ = some (.int .i64 4) ∧ w'.cell? ⟨B, 3, none⟩ = some (.int .i64 2) ∧ w'.cell? ⟨B, 4, none⟩ = some (.int .i64 1)) ∧ (w'.cell? ⟨(B + 1), 0, none⟩ = some (.int .i64 1) ∧ w'.cell? ⟨(B + 1), 1, none⟩ = some (.int .i64 C) ∧ w'.cell? ⟨(B + 1), 2, none⟩ = some (.int .i64 T) ∧ w'.cell? ⟨(B + 1), 3, none⟩ = some (.int .i64 1) ∧ w'.cell? ⟨(B + 1), 4, none⟩ = some (.int .i64 f) ∧ w'.cell? ⟨(B + 1), 5, none⟩ = some (.int .i64 l))) (first | exact hm0 | exact hm1.out | exact hm2.out) (first
          | (go_at_call 80; refine (rcond_lit 1 1 4 2 1 C 0 hd HHD.out _).mono ?_; rintro e w1 ⟨rfl, hk1⟩; have hm1 := HMR.out.drew.no hk1; have hz1 := HZA.out.drew.no hk1)
          | (go_at_call 81; refine (rflag_lit 1 1 4 2 1 T ow HOW.out _).mono ?_; rintro e w2 ⟨rfl, hk2⟩; have hm2 := hm1.no hk2; have hz2 := hz1.no hk2; obtain ⟨⟨a0, a1, a2, a3, a4⟩, b0, b1, b2, b3, b4, b5⟩ := hm2.out; obtain ⟨⟨g0, g1, g2⟩, ⟨z0, z1, z2⟩, zl⟩ := hz2.facts))
        have HM2 := Lib.hid hm2; have HZ2 := Lib.hid hz2
        clear hm0 hm1 hm2 hz1 hz2
        go_wp2_with fail
        have hm3 := HM2.out.drew.out.2
        go_region_held3 (fun w' => (w'.cell? ⟨(B + 1), 0, none⟩ = some (.int .i64 1) ∧ w'.cell? ⟨(B + 1), 1, none⟩ = some (.int .i64 C) ∧ w'.cell? ⟨(B + 1), 2, none⟩ = some (.int .i64 T) ∧ w'.cell? ⟨(B + 1), 3, none⟩ = some (.int .i64 1) ∧ w'.cell? ⟨(B + 1), 4, none⟩ = some (.int .i64 f) ∧ w'.cell? ⟨(B + 1), 5, none⟩ = some (.int .i64 l))) (first | exact hm3 | exact hm4.out.2 | exact (hm4.set3 _ _ _).out.2) (first
          | (go_at_call 82; refine (HRS.out _).mono ?_; rintro e w3 ⟨rfl, hk3⟩; have hm4 := HM2.out.drew.no hk3; have hz4 := HZ2.out.drew.no hk3; obtain ⟨⟨G0, G1, G2⟩, ⟨Z0, Z1, Z2⟩, ZL⟩ := hz4.facts))
        clear hm3 hm4 hz4
        go_wp2_with fail
        refine bodyPost_ret (v := .agg #[.int .i64 2, .int .i64 x, .int .i64 ((T : Int) + 1)]) (by simp [results, Try.results42, go_sem, *]) rfl ⟨rfl, ?_⟩
        repeat (first | (with_reducible exact ((((HK.out.drew.trans hk1).trans hk2).drew).trans hk3)) | refine kset HB.out ?_ _ (by show B ≤ _; dsimp only; omega) _)
      · by_cases s2 : s = 2
        · subst s2
          obtain ⟨y, hy⟩ : ∃ y, wrap64 (l + 1) = y := ⟨_, rfl⟩
          have hy' : IntKind.i64.wrap (l + 1) = y := (IntWalk.i64_left _).trans hy
          have e : nextA m20 ⟨1, C, T, 2, f, l⟩ = ⟨2, hd + 1, y⟩ := by simp [nextA, sleepsA, hfa, hc1, hy]
          rw [e]
          clear e eow hs hfa hc1 hsl s0 s1 hy
          unfold askV
          dsimp only
          go_enter Try.func42, Try.ntmps42
          go_wp2_with fail
          rw [HW.out, HB.out]
          go_region_held3 (fun w' => (w'.cell? ⟨B, 0, none⟩ = some (.int .i64 1) ∧ w'.cell? ⟨B, 1, none⟩ = some (.int .i64 1) ∧ w'.cell? ⟨B, 2, none⟩ = some (.int .i64 4) ∧ w'.cell? ⟨B, 3, none⟩ = some (.int .i64 2) ∧ w'.cell? ⟨B, 4, none⟩ = some (.int .i64 1)) ∧ (w'.cell? ⟨(B + 1), 0, none⟩ = some (.int .i64 1) ∧ w'.cell? ⟨(B + 1), 1, none⟩ = some (.int .i64 C) ∧ w'.cell? ⟨(B + 1), 2, none⟩ = some (.int .i64 T) ∧ w'.cell? ⟨(B + 1), 3, none⟩ = some (.int .i64 2) ∧ w'.cell? ⟨(B + 1), 4, none⟩ = some (.int .i64 f) ∧ w'.cell? ⟨(B + 1), 5, none⟩ = some (.int .i64 l))) (first | exact hm0 | exact hm1.out | exact hm2.out) (first
            | (go_at_call 80; refine (rcond_lit 1 1 4 2 1 C 0 hd HHD.out _).mono ?_; rintro e w1 ⟨rfl, hk1⟩; have hm1 := HMR.out.drew.no hk1; have hz1 := HZA.out.drew.no hk1)
            | (go_at_call 81; refine (rflag_lit 1 1 4 2 1 T ow HOW.out _).mono ?_; rintro e w2 ⟨rfl, hk2⟩; have hm2 := hm1.no hk2; have hz2 := hz1.no hk2; obtain ⟨⟨a0, a1, a2, a3, a4⟩, b0, b1, b2, b3, b4, b5⟩ := hm2.out; obtain ⟨⟨g0, g1, g2⟩, ⟨z0, z1, z2⟩, zl⟩ := hz2.facts))
          have HM2 := Lib.hid hm2; have HZ2 := Lib.hid hz2
          clear hm0 hm1 hm2 hz1 hz2
          go_wp2_with fail
          refine bodyPost_ret (v := .agg #[.int .i64 2, .int .i64 (hd + 1), .int .i64 y]) (by simp [results, Try.results42, go_sem, *]) rfl ⟨rfl, ?_⟩
          repeat (first | (with_reducible exact ((HK.out.drew.trans hk1).trans hk2)) | refine kset HB.out ?_ _ (by show B ≤ _; dsimp only; omega) _)
        · by_cases s3 : s = 3
          · subst s3
            have e : nextA m20 ⟨1, C, T, 3, f, l⟩ = ⟨2, ow, 1⟩ := by rw [nS3 hC hT f l, eow]; simp
            rw [e]
            clear e eow hs hfa hc1 hsl s0 s1 s2
            unfold askV
            dsimp only
            go_enter Try.func42, Try.ntmps42
            go_wp2_with fail
            rw [HW.out, HB.out]
            go_region_held3 (fun w' => (w'.cell? ⟨B, 0, none⟩ = some (.int .i64 1) ∧ w'.cell? ⟨B, 1, none⟩ = some (.int .i64 1) ∧ w'.cell? ⟨B, 2, none⟩ = some (.int .i64 4) ∧ w'.cell? ⟨B, 3, none⟩ = some (.int .i64 2) ∧ w'.cell? ⟨B, 4, none⟩ = some (.int .i64 1)) ∧ (w'.cell? ⟨(B + 1), 0, none⟩ = some (.int .i64 1) ∧ w'.cell? ⟨(B + 1), 1, none⟩ = some (.int .i64 C) ∧ w'.cell? ⟨(B + 1), 2, none⟩ = some (.int .i64 T) ∧ w'.cell? ⟨(B + 1), 3, none⟩ = some (.int .i64 3) ∧ w'.cell? ⟨(B + 1), 4, none⟩ = some (.int .i64 f) ∧ w'.cell? ⟨(B + 1), 5, none⟩ = some (.int .i64 l))) (first | exact hm0 | exact hm1.out | exact hm2.out) (first
              | (go_at_call 80; refine (rcond_lit 1 1 4 2 1 C 0 hd HHD.out _).mono ?_; rintro e w1 ⟨rfl, hk1⟩; have hm1 := HMR.out.drew.no hk1; have hz1 := HZA.out.drew.no hk1)
              | (go_at_call 81; refine (rflag_lit 1 1 4 2 1 T ow HOW.out _).mono ?_; rintro e w2 ⟨rfl, hk2⟩; have hm2 := hm1.no hk2; have hz2 := hz1.no hk2; obtain ⟨⟨a0, a1, a2, a3, a4⟩, b0, b1, b2, b3, b4, b5⟩ := hm2.out; obtain ⟨⟨g0, g1, g2⟩, ⟨z0, z1, z2⟩, zl⟩ := hz2.facts))
            have HM2 := Lib.hid hm2; have HZ2 := Lib.hid hz2
            clear hm0 hm1 hm2 hz1 hz2
            go_wp2_with fail
            refine bodyPost_ret (v := .agg #[.int .i64 2, .int .i64 ow, .int .i64 1]) (by simp [results, Try.results42, go_sem, *]) rfl ⟨rfl, ?_⟩
            repeat (first | (with_reducible exact ((HK.out.drew.trans hk1).trans hk2)) | refine kset HB.out ?_ _ (by show B ≤ _; dsimp only; omega) _)
          · have e : nextA m20 ⟨1, C, T, s, f, l⟩ = ⟨0, 0, 0⟩ := by simp [nextA, sleepsA, hfa, s0, s1, s2, s3]
            rw [e]
            have s0' : (s == 0) = false := beq_eq_false_iff_ne.2 s0
            have s1' : (s == 1) = false := beq_eq_false_iff_ne.2 s1
            have s2' : (s == 2) = false := beq_eq_false_iff_ne.2 s2
            have s3' : (s == 3) = false := beq_eq_false_iff_ne.2 s3
            clear e eow hs hfa hc1 hsl s0 s1 s2 s3
            unfold askV
            dsimp only
            go_enter Try.func42, Try.ntmps42
            go_wp2_with fail
            rw [HW.out, HB.out]
            go_region_held3 (fun w' => (w'.cell? ⟨B, 0, none⟩ = some (.int .i64 1) ∧ w'.cell? ⟨B, 1, none⟩ = some (.int .i64 1) ∧ w'.cell? ⟨B, 2, none⟩ = some (.int .i64 4) ∧ w'.cell? ⟨B, 3, none⟩ = some (.int .i64 2) ∧ w'.cell? ⟨B, 4, none⟩ = some (.int .i64 1)) ∧ (w'.cell? ⟨(B + 1), 0, none⟩ = some (.int .i64 1) ∧ w'.cell? ⟨(B + 1), 1, none⟩ = some (.int .i64 C) ∧ w'.cell? ⟨(B + 1), 2, none⟩ = some (.int .i64 T) ∧ w'.cell? ⟨(B + 1), 3, none⟩ = some (.int .i64 s) ∧ w'.cell? ⟨(B + 1), 4, none⟩ = some (.int .i64 f) ∧ w'.cell? ⟨(B + 1), 5, none⟩ = some (.int .i64 l))) (first | exact hm0 | exact hm1.out | exact hm2.out) (first
              | (go_at_call 80; refine (rcond_lit 1 1 4 2 1 C 0 hd HHD.out _).mono ?_; rintro e w1 ⟨rfl, hk1⟩; have hm1 := HMR.out.drew.no hk1; have hz1 := HZA.out.drew.no hk1)
              | (go_at_call 81; refine (rflag_lit 1 1 4 2 1 T ow HOW.out _).mono ?_; rintro e w2 ⟨rfl, hk2⟩; have hm2 := hm1.no hk2; have hz2 := hz1.no hk2; obtain ⟨⟨a0, a1, a2, a3, a4⟩, b0, b1, b2, b3, b4, b5⟩ := hm2.out; obtain ⟨⟨g0, g1, g2⟩, ⟨z0, z1, z2⟩, zl⟩ := hz2.facts))
            have HM2 := Lib.hid hm2; have HZ2 := Lib.hid hz2
            clear hm0 hm1 hm2 hz1 hz2
            go_wp2_with fail
            refine bodyPost_ret (v := .agg #[.int .i64 0, .int .i64 0, .int .i64 0]) (by simp [results, Try.results42, go_sem, *]) rfl ⟨rfl, ?_⟩
            repeat (first | (with_reducible exact ((HK.out.drew.trans hk1).trans hk2)) | refine kset HB.out ?_ _ (by show B ≤ _; dsimp only; omega) _)
  · have k1' : (k == 1) = false := beq_eq_false_iff_ne.2 k1
    by_cases k23 : k = 2 ∨ k = 3
    case neg =>
      have e : nextA m20 ⟨k, C, T, s, f, l⟩ = ⟨0, 0, 0⟩ := by simp only [nextA, hfa, if_true, if_neg k1, if_neg k23]
      rw [e]
      have k2' : (k != 2) = true := bne_iff_ne.2 (fun h => k23 (.inl h))
      have k3' : (k != 3) = true := bne_iff_ne.2 (fun h => k23 (.inr h))
      clear e eow hs hfa hc1 hsl k1 k23
      unfold askV
      dsimp only
      go_enter Try.func42, Try.ntmps42
      go_wp2_with fail
      rw [HW.out, HB.out]
      go_region_held3 (fun w' => (w'.cell? ⟨B, 0, none⟩ = some (.int .i64 1) ∧ w'.cell? ⟨B, 1, none⟩ = some (.int .i64 1) ∧ w'.cell? ⟨B, 2, none⟩ = some (.int .i64 4) ∧ w'.cell? ⟨B, 3, none⟩ = some (.int .i64 2) ∧ w'.cell? ⟨B, 4, none⟩ = some (.int .i64 1)) ∧ (w'.cell? ⟨(B + 1), 0, none⟩ = some (.int .i64 k) ∧ w'.cell? ⟨(B + 1), 1, none⟩ = some (.int .i64 C) ∧ w'.cell? ⟨(B + 1), 2, none⟩ = some (.int .i64 T) ∧ w'.cell? ⟨(B + 1), 3, none⟩ = some (.int .i64 s) ∧ w'.cell? ⟨(B + 1), 4, none⟩ = some (.int .i64 f) ∧ w'.cell? ⟨(B + 1), 5, none⟩ = some (.int .i64 l))) (first | exact hm0 | exact hm1.out | exact hm2.out) (first
        | (go_at_call 80; refine (rcond_lit 1 1 4 2 1 C 0 hd HHD.out _).mono ?_; rintro e w1 ⟨rfl, hk1⟩; have hm1 := HMR.out.drew.no hk1; have hz1 := HZA.out.drew.no hk1)
        | (go_at_call 81; refine (rflag_lit 1 1 4 2 1 T ow HOW.out _).mono ?_; rintro e w2 ⟨rfl, hk2⟩; have hm2 := hm1.no hk2; have hz2 := hz1.no hk2; obtain ⟨⟨a0, a1, a2, a3, a4⟩, b0, b1, b2, b3, b4, b5⟩ := hm2.out; obtain ⟨⟨g0, g1, g2⟩, ⟨z0, z1, z2⟩, zl⟩ := hz2.facts))
      have HM2 := Lib.hid hm2; have HZ2 := Lib.hid hz2
      clear hm0 hm1 hm2 hz1 hz2
      go_wp2_with fail
      refine bodyPost_ret (v := .agg #[.int .i64 0, .int .i64 0, .int .i64 0]) (by simp [results, Try.results42, go_sem, *]) rfl ⟨rfl, ?_⟩
      repeat (first | (with_reducible exact ((HK.out.drew.trans hk1).trans hk2)) | refine kset HB.out ?_ _ (by show B ≤ _; dsimp only; omega) _)
    have hnw : nextA m20 ⟨k, C, T, s, f, l⟩ = wakesA m20 ⟨k, C, T, s, f, l⟩ := nW hC hT f l k23
    rw [hnw]
    have hc0 : condP m20 C 0 = hd := HHD.out
    have hkk : (k != 2) = false ∨ ((k != 2) = true ∧ (k != 3) = false) := by
      rcases k23 with h | h
      · subst h; exact .inl rfl
      · subst h; exact .inr ⟨rfl, rfl⟩
    clear hnw hfa k1 eow k23
    rcases hkk with k2' | ⟨k2', k3'⟩
    · by_cases s0 : s = 0
      · subst s0
        have e : wakesA m20 ⟨k, C, T, 0, f, l⟩ = ⟨1, hd, 0⟩ := by simp [wakesA, hc0]
        rw [e]
        clear e hs hc1 hsl hc0
        unfold askV
        dsimp only
        go_enter Try.func42, Try.ntmps42
        go_wp2_with fail
        rw [HW.out, HB.out]
        go_region_held3 (fun w' => (w'.cell? ⟨B, 0, none⟩ = some (.int .i64 1) ∧ w'.cell? ⟨B, 1, none⟩ = some (.int .i64 1) ∧ w'.cell? ⟨B, 2, none⟩ = some (.int .i64 4) ∧ w'.cell? ⟨B, 3, none⟩ = some (.int .i64 2) ∧ w'.cell? ⟨B, 4, none⟩ = some (.int .i64 1)) ∧ (w'.cell? ⟨(B + 1), 0, none⟩ = some (.int .i64 k) ∧ w'.cell? ⟨(B + 1), 1, none⟩ = some (.int .i64 C) ∧ w'.cell? ⟨(B + 1), 2, none⟩ = some (.int .i64 T) ∧ w'.cell? ⟨(B + 1), 3, none⟩ = some (.int .i64 0) ∧ w'.cell? ⟨(B + 1), 4, none⟩ = some (.int .i64 f) ∧ w'.cell? ⟨(B + 1), 5, none⟩ = some (.int .i64 l))) (first | exact hm0 | exact hm1.out | exact hm2.out) (first
          | (go_at_call 80; refine (rcond_lit 1 1 4 2 1 C 0 hd HHD.out _).mono ?_; rintro e w1 ⟨rfl, hk1⟩; have hm1 := HMR.out.drew.no hk1; have hz1 := HZA.out.drew.no hk1)
          | (go_at_call 81; refine (rflag_lit 1 1 4 2 1 T ow HOW.out _).mono ?_; rintro e w2 ⟨rfl, hk2⟩; have hm2 := hm1.no hk2; have hz2 := hz1.no hk2; obtain ⟨⟨a0, a1, a2, a3, a4⟩, b0, b1, b2, b3, b4, b5⟩ := hm2.out; obtain ⟨⟨g0, g1, g2⟩, ⟨z0, z1, z2⟩, zl⟩ := hz2.facts))
        have HM2 := Lib.hid hm2; have HZ2 := Lib.hid hz2
        clear hm0 hm1 hm2 hz1 hz2
        go_wp2_with fail
        refine bodyPost_ret (v := .agg #[.int .i64 1, .int .i64 hd, .int .i64 0]) (by simp [results, Try.results42, go_sem, *]) rfl ⟨rfl, ?_⟩
        repeat (first | (with_reducible exact ((HK.out.drew.trans hk1).trans hk2)) | refine kset HB.out ?_ _ (by show B ≤ _; dsimp only; omega) _)
      · by_cases s1 : s = 1
        · subst s1
          have e : wakesA m20 ⟨k, C, T, 1, f, l⟩ = ⟨1, hd + 1, 0⟩ := by simp [wakesA, hc1]
          rw [e]
          clear e hs hc1 hsl hc0 s0
          unfold askV
          dsimp only
          go_enter Try.func42, Try.ntmps42
          go_wp2_with fail
          rw [HW.out, HB.out]
          go_region_held3 (fun w' => (w'.cell? ⟨B, 0, none⟩ = some (.int .i64 1) ∧ w'.cell? ⟨B, 1, none⟩ = some (.int .i64 1) ∧ w'.cell? ⟨B, 2, none⟩ = some (.int .i64 4) ∧ w'.cell? ⟨B, 3, none⟩ = some (.int .i64 2) ∧ w'.cell? ⟨B, 4, none⟩ = some (.int .i64 1)) ∧ (w'.cell? ⟨(B + 1), 0, none⟩ = some (.int .i64 k) ∧ w'.cell? ⟨(B + 1), 1, none⟩ = some (.int .i64 C) ∧ w'.cell? ⟨(B + 1), 2, none⟩ = some (.int .i64 T) ∧ w'.cell? ⟨(B + 1), 3, none⟩ = some (.int .i64 1) ∧ w'.cell? ⟨(B + 1), 4, none⟩ = some (.int .i64 f) ∧ w'.cell? ⟨(B + 1), 5, none⟩ = some (.int .i64 l))) (first | exact hm0 | exact hm1.out | exact hm2.out) (first
            | (go_at_call 80; refine (rcond_lit 1 1 4 2 1 C 0 hd HHD.out _).mono ?_; rintro e w1 ⟨rfl, hk1⟩; have hm1 := HMR.out.drew.no hk1; have hz1 := HZA.out.drew.no hk1)
            | (go_at_call 81; refine (rflag_lit 1 1 4 2 1 T ow HOW.out _).mono ?_; rintro e w2 ⟨rfl, hk2⟩; have hm2 := hm1.no hk2; have hz2 := hz1.no hk2; obtain ⟨⟨a0, a1, a2, a3, a4⟩, b0, b1, b2, b3, b4, b5⟩ := hm2.out; obtain ⟨⟨g0, g1, g2⟩, ⟨z0, z1, z2⟩, zl⟩ := hz2.facts))
          have HM2 := Lib.hid hm2; have HZ2 := Lib.hid hz2
          clear hm0 hm1 hm2 hz1 hz2
          go_wp2_with fail
          refine bodyPost_ret (v := .agg #[.int .i64 1, .int .i64 (hd + 1), .int .i64 0]) (by simp [results, Try.results42, go_sem, *]) rfl ⟨rfl, ?_⟩
          repeat (first | (with_reducible exact ((HK.out.drew.trans hk1).trans hk2)) | refine kset HB.out ?_ _ (by show B ≤ _; dsimp only; omega) _)
        · by_cases s2 : s = 2
          · subst s2
            have e : wakesA m20 ⟨k, C, T, 2, f, l⟩ = ⟨1, hd + 2 + f % 4, 0⟩ := by simp [wakesA, hsl]
            rw [e]
            obtain ⟨x, hx⟩ : ∃ x, hd + 2 + f % 4 = x := ⟨_, rfl⟩
            have hrs := rslot_any hd f hd0 hd9
            rw [hx] at hrs
            rw [hx]
            have HRS := Lib.hid hrs
            clear e hs hc1 hsl hc0 s0 s1 hx hrs
            unfold askV
            dsimp only
            go_enter Try.func42, Try.ntmps42
            go_wp2_with fail
            rw [HW.out, HB.out]
            go_region_held3 (fun w' => (w'.cell? ⟨B, 0, none⟩ = some (.int .i64 1) ∧ w'.cell? ⟨B, 1, none⟩ = some (.int .i64 1) ∧ w'.cell? ⟨B, 2, none⟩ = some (.int .i64 4) ∧ w'.cell? ⟨B, 3, none⟩ = some (.int .i64 2) ∧ w'.cell? ⟨B, 4, none⟩ = some (.int .i64 1)) ∧ (w'.cell? ⟨(B + 1), 0, none⟩ = some (.int .i64 k) ∧ w'.cell? ⟨(B + 1), 1, none⟩ = some (.int .i64 C) ∧ w'.cell? ⟨(B + 1), 2, none⟩ = some (.int .i64 T) ∧ w'.cell? ⟨(B + 1), 3, none⟩ = some (.int .i64 2) ∧ w'.cell? ⟨(B + 1), 4, none⟩ = some (.int .i64 f) ∧ w'.cell? ⟨(B + 1), 5, none⟩ = some (.int .i64 l))) (first | exact hm0 | exact hm1.out | exact hm2.out) (first
              | (go_at_call 80; refine (rcond_lit 1 1 4 2 1 C 0 hd HHD.out _).mono ?_; rintro e w1 ⟨rfl, hk1⟩; have hm1 := HMR.out.drew.no hk1; have hz1 := HZA.out.drew.no hk1)
              | (go_at_call 81; refine (rflag_lit 1 1 4 2 1 T ow HOW.out _).mono ?_; rintro e w2 ⟨rfl, hk2⟩; have hm2 := hm1.no hk2; have hz2 := hz1.no hk2; obtain ⟨⟨a0, a1, a2, a3, a4⟩, b0, b1, b2, b3, b4, b5⟩ := hm2.out; obtain ⟨⟨g0, g1, g2⟩, ⟨z0, z1, z2⟩, zl⟩ := hz2.facts))
            have HM2 := Lib.hid hm2; have HZ2 := Lib.hid hz2
            clear hm0 hm1 hm2 hz1 hz2
            go_wp2_with (go_at_call 82; refine (HRS.out _).mono ?_; rintro e w3 ⟨rfl, hk3⟩; have hz4 := HZ2.out.no hk3; obtain ⟨⟨G0, G1, G2⟩, ⟨Z0, Z1, Z2⟩, ZL⟩ := hz4.facts)
            refine bodyPost_ret (v := .agg #[.int .i64 1, .int .i64 x, .int .i64 0]) (by simp [results, Try.results42, go_sem, *]) rfl ⟨rfl, ?_⟩
            repeat (first | (with_reducible exact (((HK.out.drew.trans hk1).trans hk2).trans hk3)) | refine kset HB.out ?_ _ (by show B ≤ _; dsimp only; omega) _)
          · by_cases s8 : s = 8
            · subst s8
              obtain ⟨y, hy⟩ : ∃ y, wrap64 (f + 1) = y := ⟨_, rfl⟩
              have hy' : IntKind.i64.wrap (f + 1) = y := (IntWalk.i64_left _).trans hy
              have e : wakesA m20 ⟨k, C, T, 8, f, l⟩ = ⟨2, hd, y⟩ := by simp [wakesA, hc0, hy]
              rw [e]
              clear e hs hc1 hsl hc0 s0 s1 s2 hy
              unfold askV
              dsimp only
              go_enter Try.func42, Try.ntmps42
              go_wp2_with fail
              rw [HW.out, HB.out]
              go_region_held3 (fun w' => (w'.cell? ⟨B, 0, none⟩ = some (.int .i64 1) ∧ w'.cell? ⟨B, 1, none⟩ = some (.int .i64 1) ∧ w'.cell? ⟨B, 2, none⟩ = some (.int .i64 4) ∧ w'.cell? ⟨B, 3, none⟩ = some (.int .i64 2) ∧ w'.cell? ⟨B, 4, none⟩ = some (.int .i64 1)) ∧ (w'.cell? ⟨(B + 1), 0, none⟩ = some (.int .i64 k) ∧ w'.cell? ⟨(B + 1), 1, none⟩ = some (.int .i64 C) ∧ w'.cell? ⟨(B + 1), 2, none⟩ = some (.int .i64 T) ∧ w'.cell? ⟨(B + 1), 3, none⟩ = some (.int .i64 8) ∧ w'.cell? ⟨(B + 1), 4, none⟩ = some (.int .i64 f) ∧ w'.cell? ⟨(B + 1), 5, none⟩ = some (.int .i64 l))) (first | exact hm0 | exact hm1.out | exact hm2.out) (first
                | (go_at_call 80; refine (rcond_lit 1 1 4 2 1 C 0 hd HHD.out _).mono ?_; rintro e w1 ⟨rfl, hk1⟩; have hm1 := HMR.out.drew.no hk1; have hz1 := HZA.out.drew.no hk1)
                | (go_at_call 81; refine (rflag_lit 1 1 4 2 1 T ow HOW.out _).mono ?_; rintro e w2 ⟨rfl, hk2⟩; have hm2 := hm1.no hk2; have hz2 := hz1.no hk2; obtain ⟨⟨a0, a1, a2, a3, a4⟩, b0, b1, b2, b3, b4, b5⟩ := hm2.out; obtain ⟨⟨g0, g1, g2⟩, ⟨z0, z1, z2⟩, zl⟩ := hz2.facts))
              have HM2 := Lib.hid hm2; have HZ2 := Lib.hid hz2
              clear hm0 hm1 hm2 hz1 hz2
              go_wp2_with fail
              refine bodyPost_ret (v := .agg #[.int .i64 2, .int .i64 hd, .int .i64 y]) (by simp [results, Try.results42, go_sem, *]) rfl ⟨rfl, ?_⟩
              repeat (first | (with_reducible exact ((HK.out.drew.trans hk1).trans hk2)) | refine kset HB.out ?_ _ (by show B ≤ _; dsimp only; omega) _)
            · have s0' : (s == 0) = false := beq_eq_false_iff_ne.2 s0
              have s1' : (s == 1) = false := beq_eq_false_iff_ne.2 s1
              have s2' : (s == 2) = false := beq_eq_false_iff_ne.2 s2
              have s8' : (s == 8) = false := beq_eq_false_iff_ne.2 s8
              by_cases h10 : 10 ≤ s ∧ s ≤ 13
              · obtain ⟨x, hx⟩ : ∃ x, flagP m20 (s - 10) = x := ⟨_, rfl⟩
                have hx0 : 0 ≤ x := by
                  rw [← hx]
                  have h1 : s - 10 = ((s - 10).toNat : Int) := by omega
                  rw [h1, flg20 _ (by omega)]; omega
                have e : wakesA m20 ⟨k, C, T, s, f, l⟩ = ⟨2, x, 0⟩ := by
                  simp only [wakesA, if_neg s0, if_neg s1, if_neg s2, if_neg s8, hx]
                  rw [if_pos ⟨h10.1, hx0⟩]
                rw [e]
                have d3 : decide (10 ≤ s) = true := decide_eq_true h10.1
                have d4 : decide (s ≤ 13) = true := decide_eq_true h10.2
                have hw10 : IntKind.i64.wrap (s - 10) = s - 10 := (IntWalk.i64_left _).trans (wrap64_id (by omega) (by omega))
                have HX := Lib.hid hx
                clear e hs hc1 hsl hc0 s0 s1 s2 s8 hx hx0 h10
                unfold askV
                dsimp only
                go_enter Try.func42, Try.ntmps42
                go_wp2_with fail
                rw [HW.out, HB.out]
                go_region_held3 (fun w' => (w'.cell? ⟨B, 0, none⟩ = some (.int .i64 1) ∧ w'.cell? ⟨B, 1, none⟩ = some (.int .i64 1) ∧ w'.cell? ⟨B, 2, none⟩ = some (.int .i64 4) ∧ w'.cell? ⟨B, 3, none⟩ = some (.int .i64 2) ∧ w'.cell? ⟨B, 4, none⟩ = some (.int .i64 1)) ∧ (w'.cell? ⟨(B + 1), 0, none⟩ = some (.int .i64 k) ∧ w'.cell? ⟨(B + 1), 1, none⟩ = some (.int .i64 C) ∧ w'.cell? ⟨(B + 1), 2, none⟩ = some (.int .i64 T) ∧ w'.cell? ⟨(B + 1), 3, none⟩ = some (.int .i64 s) ∧ w'.cell? ⟨(B + 1), 4, none⟩ = some (.int .i64 f) ∧ w'.cell? ⟨(B + 1), 5, none⟩ = some (.int .i64 l))) (first | exact hm0 | exact hm1.out | exact hm2.out) (first
                  | (go_at_call 80; refine (rcond_lit 1 1 4 2 1 C 0 hd HHD.out _).mono ?_; rintro e w1 ⟨rfl, hk1⟩; have hm1 := HMR.out.drew.no hk1; have hz1 := HZA.out.drew.no hk1)
                  | (go_at_call 81; refine (rflag_lit 1 1 4 2 1 T ow HOW.out _).mono ?_; rintro e w2 ⟨rfl, hk2⟩; have hm2 := hm1.no hk2; have hz2 := hz1.no hk2; obtain ⟨⟨a0, a1, a2, a3, a4⟩, b0, b1, b2, b3, b4, b5⟩ := hm2.out; obtain ⟨⟨g0, g1, g2⟩, ⟨z0, z1, z2⟩, zl⟩ := hz2.facts))
                have HM2 := Lib.hid hm2; have HZ2 := Lib.hid hz2
                clear hm0 hm1 hm2 hz1 hz2
                go_wp2_with (go_at_call 81; refine (rflag_lit 1 1 4 2 1 (s - 10) x HX.out _).mono ?_; rintro e w3 ⟨rfl, hk3⟩; have hz4 := HZ2.out.no hk3; obtain ⟨⟨G0, G1, G2⟩, ⟨Z0, Z1, Z2⟩, ZL⟩ := hz4.facts)
                refine bodyPost_ret (v := .agg #[.int .i64 2, .int .i64 x, .int .i64 0]) (by simp [results, Try.results42, go_sem, *]) rfl ⟨rfl, ?_⟩
                repeat (first | (with_reducible exact (((HK.out.drew.trans hk1).trans hk2).trans hk3)) | refine kset HB.out ?_ _ (by show B ≤ _; dsimp only; omega) _)
              · have e : wakesA m20 ⟨k, C, T, s, f, l⟩ = ⟨0, 0, 0⟩ := by
                  simp only [wakesA, if_neg s0, if_neg s1, if_neg s2, if_neg s8]
                  rw [if_neg]
                  rintro ⟨h1, h2⟩
                  apply h10
                  refine ⟨h1, ?_⟩
                  by_cases hi : 0 ≤ s - 10 ∧ s - 10 < 4
                  · omega
                  · unfold flagP at h2
                    rw [inB_not hi] at h2
                    simp at h2
                rw [e]
                have hd3 : decide (10 ≤ s) = false ∨ (decide (10 ≤ s) = true ∧ decide (s ≤ 13) = false) := by
                  by_cases h : 10 ≤ s
                  · exact .inr ⟨decide_eq_true h, decide_eq_false (fun h' => h10 ⟨h, h'⟩)⟩
                  · exact .inl (decide_eq_false h)
                clear e hs hc1 hsl hc0 s0 s1 s2 s8 h10
                rcases hd3 with d3 | ⟨d3, d4⟩
                · unfold askV
                  dsimp only
                  go_enter Try.func42, Try.ntmps42
                  go_wp2_with fail
                  rw [HW.out, HB.out]
                  go_region_held3 (fun w' => (w'.cell? ⟨B, 0, none⟩ = some (.int .i64 1) ∧ w'.cell? ⟨B, 1, none⟩ = some (.int .i64 1) ∧ w'.cell? ⟨B, 2, none⟩ = some (.int .i64 4) ∧ w'.cell? ⟨B, 3, none⟩ = some (.int .i64 2) ∧ w'.cell? ⟨B, 4, none⟩ = some (.int .i64 1)) ∧ (w'.cell? ⟨(B + 1), 0, none⟩ = some (.int .i64 k) ∧ w'.cell? ⟨(B + 1), 1, none⟩ = some (.int .i64 C) ∧ w'.cell? ⟨(B + 1), 2, none⟩ = some (.int .i64 T) ∧ w'.cell? ⟨(B + 1), 3, none⟩ = some (.int .i64 s) ∧ w'.cell? ⟨(B + 1), 4, none⟩ = some (.int .i64 f) ∧ w'.cell? ⟨(B + 1), 5, none⟩ = some (.int .i64 l))) (first | exact hm0 | exact hm1.out | exact hm2.out) (first
                    | (go_at_call 80; refine (rcond_lit 1 1 4 2 1 C 0 hd HHD.out _).mono ?_; rintro e w1 ⟨rfl, hk1⟩; have hm1 := HMR.out.drew.no hk1; have hz1 := HZA.out.drew.no hk1)
                    | (go_at_call 81; refine (rflag_lit 1 1 4 2 1 T ow HOW.out _).mono ?_; rintro e w2 ⟨rfl, hk2⟩; have hm2 := hm1.no hk2; have hz2 := hz1.no hk2; obtain ⟨⟨a0, a1, a2, a3, a4⟩, b0, b1, b2, b3, b4, b5⟩ := hm2.out; obtain ⟨⟨g0, g1, g2⟩, ⟨z0, z1, z2⟩, zl⟩ := hz2.facts))
                  have HM2 := Lib.hid hm2; have HZ2 := Lib.hid hz2
                  clear hm0 hm1 hm2 hz1 hz2
                  go_wp2_with fail
                  refine bodyPost_ret (v := .agg #[.int .i64 0, .int .i64 0, .int .i64 0]) (by simp [results, Try.results42, go_sem, *]) rfl ⟨rfl, ?_⟩
                  repeat (first | (with_reducible exact ((HK.out.drew.trans hk1).trans hk2)) | refine kset HB.out ?_ _ (by show B ≤ _; dsimp only; omega) _)
                · unfold askV
                  dsimp only
                  go_enter Try.func42, Try.ntmps42
                  go_wp2_with fail
                  rw [HW.out, HB.out]
                  go_region_held3 (fun w' => (w'.cell? ⟨B, 0, none⟩ = some (.int .i64 1) ∧ w'.cell? ⟨B, 1, none⟩ = some (.int .i64 1) ∧ w'.cell? ⟨B, 2, none⟩ = some (.int .i64 4) ∧ w'.cell? ⟨B, 3, none⟩ = some (.int .i64 2) ∧ w'.cell? ⟨B, 4, none⟩ = some (.int .i64 1)) ∧ (w'.cell? ⟨(B + 1), 0, none⟩ = some (.int .i64 k) ∧ w'.cell? ⟨(B + 1), 1, none⟩ = some (.int .i64 C) ∧ w'.cell? ⟨(B + 1), 2, none⟩ = some (.int .i64 T) ∧ w'.cell? ⟨(B + 1), 3, none⟩ = some (.int .i64 s) ∧ w'.cell? ⟨(B + 1), 4, none⟩ = some (.int .i64 f) ∧ w'.cell? ⟨(B + 1), 5, none⟩ = some (.int .i64 l))) (first | exact hm0 | exact hm1.out | exact hm2.out) (first
                    | (go_at_call 80; refine (rcond_lit 1 1 4 2 1 C 0 hd HHD.out _).mono ?_; rintro e w1 ⟨rfl, hk1⟩; have hm1 := HMR.out.drew.no hk1; have hz1 := HZA.out.drew.no hk1)
                    | (go_at_call 81; refine (rflag_lit 1 1 4 2 1 T ow HOW.out _).mono ?_; rintro e w2 ⟨rfl, hk2⟩; have hm2 := hm1.no hk2; have hz2 := hz1.no hk2; obtain ⟨⟨a0, a1, a2, a3, a4⟩, b0, b1, b2, b3, b4, b5⟩ := hm2.out; obtain ⟨⟨g0, g1, g2⟩, ⟨z0, z1, z2⟩, zl⟩ := hz2.facts))
                  have HM2 := Lib.hid hm2; have HZ2 := Lib.hid hz2
                  clear hm0 hm1 hm2 hz1 hz2
                  go_wp2_with fail
                  refine bodyPost_ret (v := .agg #[.int .i64 0, .int .i64 0, .int .i64 0]) (by simp [results, Try.results42, go_sem, *]) rfl ⟨rfl, ?_⟩
                  repeat (first | (with_reducible exact ((HK.out.drew.trans hk1).trans hk2)) | refine kset HB.out ?_ _ (by show B ≤ _; dsimp only; omega) _)
    · by_cases s0 : s = 0
      · subst s0
        have e : wakesA m20 ⟨k, C, T, 0, f, l⟩ = ⟨1, hd, 0⟩ := by simp [wakesA, hc0]
        rw [e]
        clear e hs hc1 hsl hc0
        unfold askV
        dsimp only
        go_enter Try.func42, Try.ntmps42
        go_wp2_with fail
        rw [HW.out, HB.out]
        go_region_held3 (fun w' => (w'.cell? ⟨B, 0, none⟩ = some (.int .i64 1) ∧ w'.cell? ⟨B, 1, none⟩ = some (.int .i64 1) ∧ w'.cell? ⟨B, 2, none⟩ = some (.int .i64 4) ∧ w'.cell? ⟨B, 3, none⟩ = some (.int .i64 2) ∧ w'.cell? ⟨B, 4, none⟩ = some (.int .i64 1)) ∧ (w'.cell? ⟨(B + 1), 0, none⟩ = some (.int .i64 k) ∧ w'.cell? ⟨(B + 1), 1, none⟩ = some (.int .i64 C) ∧ w'.cell? ⟨(B + 1), 2, none⟩ = some (.int .i64 T) ∧ w'.cell? ⟨(B + 1), 3, none⟩ = some (.int .i64 0) ∧ w'.cell? ⟨(B + 1), 4, none⟩ = some (.int .i64 f) ∧ w'.cell? ⟨(B + 1), 5, none⟩ = some (.int .i64 l))) (first | exact hm0 | exact hm1.out | exact hm2.out) (first
          | (go_at_call 80; refine (rcond_lit 1 1 4 2 1 C 0 hd HHD.out _).mono ?_; rintro e w1 ⟨rfl, hk1⟩; have hm1 := HMR.out.drew.no hk1; have hz1 := HZA.out.drew.no hk1)
          | (go_at_call 81; refine (rflag_lit 1 1 4 2 1 T ow HOW.out _).mono ?_; rintro e w2 ⟨rfl, hk2⟩; have hm2 := hm1.no hk2; have hz2 := hz1.no hk2; obtain ⟨⟨a0, a1, a2, a3, a4⟩, b0, b1, b2, b3, b4, b5⟩ := hm2.out; obtain ⟨⟨g0, g1, g2⟩, ⟨z0, z1, z2⟩, zl⟩ := hz2.facts))
        have HM2 := Lib.hid hm2; have HZ2 := Lib.hid hz2
        clear hm0 hm1 hm2 hz1 hz2
        go_wp2_with fail
        refine bodyPost_ret (v := .agg #[.int .i64 1, .int .i64 hd, .int .i64 0]) (by simp [results, Try.results42, go_sem, *]) rfl ⟨rfl, ?_⟩
        repeat (first | (with_reducible exact ((HK.out.drew.trans hk1).trans hk2)) | refine kset HB.out ?_ _ (by show B ≤ _; dsimp only; omega) _)
      · by_cases s1 : s = 1
        · subst s1
          have e : wakesA m20 ⟨k, C, T, 1, f, l⟩ = ⟨1, hd + 1, 0⟩ := by simp [wakesA, hc1]
          rw [e]
          clear e hs hc1 hsl hc0 s0
          unfold askV
          dsimp only
          go_enter Try.func42, Try.ntmps42
          go_wp2_with fail
          rw [HW.out, HB.out]
          go_region_held3 (fun w' => (w'.cell? ⟨B, 0, none⟩ = some (.int .i64 1) ∧ w'.cell? ⟨B, 1, none⟩ = some (.int .i64 1) ∧ w'.cell? ⟨B, 2, none⟩ = some (.int .i64 4) ∧ w'.cell? ⟨B, 3, none⟩ = some (.int .i64 2) ∧ w'.cell? ⟨B, 4, none⟩ = some (.int .i64 1)) ∧ (w'.cell? ⟨(B + 1), 0, none⟩ = some (.int .i64 k) ∧ w'.cell? ⟨(B + 1), 1, none⟩ = some (.int .i64 C) ∧ w'.cell? ⟨(B + 1), 2, none⟩ = some (.int .i64 T) ∧ w'.cell? ⟨(B + 1), 3, none⟩ = some (.int .i64 1) ∧ w'.cell? ⟨(B + 1), 4, none⟩ = some (.int .i64 f) ∧ w'.cell? ⟨(B + 1), 5, none⟩ = some (.int .i64 l))) (first | exact hm0 | exact hm1.out | exact hm2.out) (first
            | (go_at_call 80; refine (rcond_lit 1 1 4 2 1 C 0 hd HHD.out _).mono ?_; rintro e w1 ⟨rfl, hk1⟩; have hm1 := HMR.out.drew.no hk1; have hz1 := HZA.out.drew.no hk1)
            | (go_at_call 81; refine (rflag_lit 1 1 4 2 1 T ow HOW.out _).mono ?_; rintro e w2 ⟨rfl, hk2⟩; have hm2 := hm1.no hk2; have hz2 := hz1.no hk2; obtain ⟨⟨a0, a1, a2, a3, a4⟩, b0, b1, b2, b3, b4, b5⟩ := hm2.out; obtain ⟨⟨g0, g1, g2⟩, ⟨z0, z1, z2⟩, zl⟩ := hz2.facts))
          have HM2 := Lib.hid hm2; have HZ2 := Lib.hid hz2
          clear hm0 hm1 hm2 hz1 hz2
          go_wp2_with fail
          refine bodyPost_ret (v := .agg #[.int .i64 1, .int .i64 (hd + 1), .int .i64 0]) (by simp [results, Try.results42, go_sem, *]) rfl ⟨rfl, ?_⟩
          repeat (first | (with_reducible exact ((HK.out.drew.trans hk1).trans hk2)) | refine kset HB.out ?_ _ (by show B ≤ _; dsimp only; omega) _)
        · by_cases s2 : s = 2
          · subst s2
            have e : wakesA m20 ⟨k, C, T, 2, f, l⟩ = ⟨1, hd + 2 + f % 4, 0⟩ := by simp [wakesA, hsl]
            rw [e]
            obtain ⟨x, hx⟩ : ∃ x, hd + 2 + f % 4 = x := ⟨_, rfl⟩
            have hrs := rslot_any hd f hd0 hd9
            rw [hx] at hrs
            rw [hx]
            have HRS := Lib.hid hrs
            clear e hs hc1 hsl hc0 s0 s1 hx hrs
            unfold askV
            dsimp only
            go_enter Try.func42, Try.ntmps42
            go_wp2_with fail
            rw [HW.out, HB.out]
            go_region_held3 (fun w' => (w'.cell? ⟨B, 0, none⟩ = some (.int .i64 1) ∧ w'.cell? ⟨B, 1, none⟩ = some (.int .i64 1) ∧ w'.cell? ⟨B, 2, none⟩ = some (.int .i64 4) ∧ w'.cell? ⟨B, 3, none⟩ = some (.int .i64 2) ∧ w'.cell? ⟨B, 4, none⟩ = some (.int .i64 1)) ∧ (w'.cell? ⟨(B + 1), 0, none⟩ = some (.int .i64 k) ∧ w'.cell? ⟨(B + 1), 1, none⟩ = some (.int .i64 C) ∧ w'.cell? ⟨(B + 1), 2, none⟩ = some (.int .i64 T) ∧ w'.cell? ⟨(B + 1), 3, none⟩ = some (.int .i64 2) ∧ w'.cell? ⟨(B + 1), 4, none⟩ = some (.int .i64 f) ∧ w'.cell? ⟨(B + 1), 5, none⟩ = some (.int .i64 l))) (first | exact hm0 | exact hm1.out | exact hm2.out) (first
              | (go_at_call 80; refine (rcond_lit 1 1 4 2 1 C 0 hd HHD.out _).mono ?_; rintro e w1 ⟨rfl, hk1⟩; have hm1 := HMR.out.drew.no hk1; have hz1 := HZA.out.drew.no hk1)
              | (go_at_call 81; refine (rflag_lit 1 1 4 2 1 T ow HOW.out _).mono ?_; rintro e w2 ⟨rfl, hk2⟩; have hm2 := hm1.no hk2; have hz2 := hz1.no hk2; obtain ⟨⟨a0, a1, a2, a3, a4⟩, b0, b1, b2, b3, b4, b5⟩ := hm2.out; obtain ⟨⟨g0, g1, g2⟩, ⟨z0, z1, z2⟩, zl⟩ := hz2.facts))
            have HM2 := Lib.hid hm2; have HZ2 := Lib.hid hz2
            clear hm0 hm1 hm2 hz1 hz2
            go_wp2_with (go_at_call 82; refine (HRS.out _).mono ?_; rintro e w3 ⟨rfl, hk3⟩; have hz4 := HZ2.out.no hk3; obtain ⟨⟨G0, G1, G2⟩, ⟨Z0, Z1, Z2⟩, ZL⟩ := hz4.facts)
            refine bodyPost_ret (v := .agg #[.int .i64 1, .int .i64 x, .int .i64 0]) (by simp [results, Try.results42, go_sem, *]) rfl ⟨rfl, ?_⟩
            repeat (first | (with_reducible exact (((HK.out.drew.trans hk1).trans hk2).trans hk3)) | refine kset HB.out ?_ _ (by show B ≤ _; dsimp only; omega) _)
          · by_cases s8 : s = 8
            · subst s8
              obtain ⟨y, hy⟩ : ∃ y, wrap64 (f + 1) = y := ⟨_, rfl⟩
              have hy' : IntKind.i64.wrap (f + 1) = y := (IntWalk.i64_left _).trans hy
              have e : wakesA m20 ⟨k, C, T, 8, f, l⟩ = ⟨2, hd, y⟩ := by simp [wakesA, hc0, hy]
              rw [e]
              clear e hs hc1 hsl hc0 s0 s1 s2 hy
              unfold askV
              dsimp only
              go_enter Try.func42, Try.ntmps42
              go_wp2_with fail
              rw [HW.out, HB.out]
              go_region_held3 (fun w' => (w'.cell? ⟨B, 0, none⟩ = some (.int .i64 1) ∧ w'.cell? ⟨B, 1, none⟩ = some (.int .i64 1) ∧ w'.cell? ⟨B, 2, none⟩ = some (.int .i64 4) ∧ w'.cell? ⟨B, 3, none⟩ = some (.int .i64 2) ∧ w'.cell? ⟨B, 4, none⟩ = some (.int .i64 1)) ∧ (w'.cell? ⟨(B + 1), 0, none⟩ = some (.int .i64 k) ∧ w'.cell? ⟨(B + 1), 1, none⟩ = some (.int .i64 C) ∧ w'.cell? ⟨(B + 1), 2, none⟩ = some (.int .i64 T) ∧ w'.cell? ⟨(B + 1), 3, none⟩ = some (.int .i64 8) ∧ w'.cell? ⟨(B + 1), 4, none⟩ = some (.int .i64 f) ∧ w'.cell? ⟨(B + 1), 5, none⟩ = some (.int .i64 l))) (first | exact hm0 | exact hm1.out | exact hm2.out) (first
                | (go_at_call 80; refine (rcond_lit 1 1 4 2 1 C 0 hd HHD.out _).mono ?_; rintro e w1 ⟨rfl, hk1⟩; have hm1 := HMR.out.drew.no hk1; have hz1 := HZA.out.drew.no hk1)
                | (go_at_call 81; refine (rflag_lit 1 1 4 2 1 T ow HOW.out _).mono ?_; rintro e w2 ⟨rfl, hk2⟩; have hm2 := hm1.no hk2; have hz2 := hz1.no hk2; obtain ⟨⟨a0, a1, a2, a3, a4⟩, b0, b1, b2, b3, b4, b5⟩ := hm2.out; obtain ⟨⟨g0, g1, g2⟩, ⟨z0, z1, z2⟩, zl⟩ := hz2.facts))
              have HM2 := Lib.hid hm2; have HZ2 := Lib.hid hz2
              clear hm0 hm1 hm2 hz1 hz2
              go_wp2_with fail
              refine bodyPost_ret (v := .agg #[.int .i64 2, .int .i64 hd, .int .i64 y]) (by simp [results, Try.results42, go_sem, *]) rfl ⟨rfl, ?_⟩
              repeat (first | (with_reducible exact ((HK.out.drew.trans hk1).trans hk2)) | refine kset HB.out ?_ _ (by show B ≤ _; dsimp only; omega) _)
            · have s0' : (s == 0) = false := beq_eq_false_iff_ne.2 s0
              have s1' : (s == 1) = false := beq_eq_false_iff_ne.2 s1
              have s2' : (s == 2) = false := beq_eq_false_iff_ne.2 s2
              have s8' : (s == 8) = false := beq_eq_false_iff_ne.2 s8
              by_cases h10 : 10 ≤ s ∧ s ≤ 13
              · obtain ⟨x, hx⟩ : ∃ x, flagP m20 (s - 10) = x := ⟨_, rfl⟩
                have hx0 : 0 ≤ x := by
                  rw [← hx]
                  have h1 : s - 10 = ((s - 10).toNat : Int) := by omega
                  rw [h1, flg20 _ (by omega)]; omega
                have e : wakesA m20 ⟨k, C, T, s, f, l⟩ = ⟨2, x, 0⟩ := by
                  simp only [wakesA, if_neg s0, if_neg s1, if_neg s2, if_neg s8, hx]
                  rw [if_pos ⟨h10.1, hx0⟩]
                rw [e]
                have d3 : decide (10 ≤ s) = true := decide_eq_true h10.1
                have d4 : decide (s ≤ 13) = true := decide_eq_true h10.2
                have hw10 : IntKind.i64.wrap (s - 10) = s - 10 := (IntWalk.i64_left _).trans (wrap64_id (by omega) (by omega))
                have HX := Lib.hid hx
                clear e hs hc1 hsl hc0 s0 s1 s2 s8 hx hx0 h10
                unfold askV
                dsimp only
                go_enter Try.func42, Try.ntmps42
                go_wp2_with fail
                rw [HW.out, HB.out]
                go_region_held3 (fun w' => (w'.cell? ⟨B, 0, none⟩ = some (.int .i64 1) ∧ w'.cell? ⟨B, 1, none⟩ = some (.int .i64 1) ∧ w'.cell? ⟨B, 2, none⟩ = some (.int .i64 4) ∧ w'.cell? ⟨B, 3, none⟩ = some (.int .i64 2) ∧ w'.cell? ⟨B, 4, none⟩ = some (.int .i64 1)) ∧ (w'.cell? ⟨(B + 1), 0, none⟩ = some (.int .i64 k) ∧ w'.cell? ⟨(B + 1), 1, none⟩ = some (.int .i64 C) ∧ w'.cell? ⟨(B + 1), 2, none⟩ = some (.int .i64 T) ∧ w'.cell? ⟨(B + 1), 3, none⟩ = some (.int .i64 s) ∧ w'.cell? ⟨(B + 1), 4, none⟩ = some (.int .i64 f) ∧ w'.cell? ⟨(B + 1), 5, none⟩ = some (.int .i64 l))) (first | exact hm0 | exact hm1.out | exact hm2.out) (first
                  | (go_at_call 80; refine (rcond_lit 1 1 4 2 1 C 0 hd HHD.out _).mono ?_; rintro e w1 ⟨rfl, hk1⟩; have hm1 := HMR.out.drew.no hk1; have hz1 := HZA.out.drew.no hk1)
                  | (go_at_call 81; refine (rflag_lit 1 1 4 2 1 T ow HOW.out _).mono ?_; rintro e w2 ⟨rfl, hk2⟩; have hm2 := hm1.no hk2; have hz2 := hz1.no hk2; obtain ⟨⟨a0, a1, a2, a3, a4⟩, b0, b1, b2, b3, b4, b5⟩ := hm2.out; obtain ⟨⟨g0, g1, g2⟩, ⟨z0, z1, z2⟩, zl⟩ := hz2.facts))
                have HM2 := Lib.hid hm2; have HZ2 := Lib.hid hz2
                clear hm0 hm1 hm2 hz1 hz2
                go_wp2_with (go_at_call 81; refine (rflag_lit 1 1 4 2 1 (s - 10) x HX.out _).mono ?_; rintro e w3 ⟨rfl, hk3⟩; have hz4 := HZ2.out.no hk3; obtain ⟨⟨G0, G1, G2⟩, ⟨Z0, Z1, Z2⟩, ZL⟩ := hz4.facts)
                refine bodyPost_ret (v := .agg #[.int .i64 2, .int .i64 x, .int .i64 0]) (by simp [results, Try.results42, go_sem, *]) rfl ⟨rfl, ?_⟩
                repeat (first | (with_reducible exact (((HK.out.drew.trans hk1).trans hk2).trans hk3)) | refine kset HB.out ?_ _ (by show B ≤ _; dsimp only; omega) _)
              · have e : wakesA m20 ⟨k, C, T, s, f, l⟩ = ⟨0, 0, 0⟩ := by
                  simp only [wakesA, if_neg s0, if_neg s1, if_neg s2, if_neg s8]
                  rw [if_neg]
                  rintro ⟨h1, h2⟩
                  apply h10
                  refine ⟨h1, ?_⟩
                  by_cases hi : 0 ≤ s - 10 ∧ s - 10 < 4
                  · omega
                  · unfold flagP at h2
                    rw [inB_not hi] at h2
                    simp at h2
                rw [e]
                have hd3 : decide (10 ≤ s) = false ∨ (decide (10 ≤ s) = true ∧ decide (s ≤ 13) = false) := by
                  by_cases h : 10 ≤ s
                  · exact .inr ⟨decide_eq_true h, decide_eq_false (fun h' => h10 ⟨h, h'⟩)⟩
                  · exact .inl (decide_eq_false h)
                clear e hs hc1 hsl hc0 s0 s1 s2 s8 h10
                rcases hd3 with d3 | ⟨d3, d4⟩
                · unfold askV
                  dsimp only
                  go_enter Try.func42, Try.ntmps42
                  go_wp2_with fail
                  rw [HW.out, HB.out]
                  go_region_held3 (fun w' => (w'.cell? ⟨B, 0, none⟩ = some (.int .i64 1) ∧ w'.cell? ⟨B, 1, none⟩ = some (.int .i64 1) ∧ w'.cell? ⟨B, 2, none⟩ = some (.int .i64 4) ∧ w'.cell? ⟨B, 3, none⟩ = some (.int .i64 2) ∧ w'.cell? ⟨B, 4, none⟩ = some (.int .i64 1)) ∧ (w'.cell? ⟨(B + 1), 0, none⟩ = some (.int .i64 k) ∧ w'.cell? ⟨(B + 1), 1, none⟩ = some (.int .i64 C) ∧ w'.cell? ⟨(B + 1), 2, none⟩ = some (.int .i64 T) ∧ w'.cell? ⟨(B + 1), 3, none⟩ = some (.int .i64 s) ∧ w'.cell? ⟨(B + 1), 4, none⟩ = some (.int .i64 f) ∧ w'.cell? ⟨(B + 1), 5, none⟩ = some (.int .i64 l))) (first | exact hm0 | exact hm1.out | exact hm2.out) (first
                    | (go_at_call 80; refine (rcond_lit 1 1 4 2 1 C 0 hd HHD.out _).mono ?_; rintro e w1 ⟨rfl, hk1⟩; have hm1 := HMR.out.drew.no hk1; have hz1 := HZA.out.drew.no hk1)
                    | (go_at_call 81; refine (rflag_lit 1 1 4 2 1 T ow HOW.out _).mono ?_; rintro e w2 ⟨rfl, hk2⟩; have hm2 := hm1.no hk2; have hz2 := hz1.no hk2; obtain ⟨⟨a0, a1, a2, a3, a4⟩, b0, b1, b2, b3, b4, b5⟩ := hm2.out; obtain ⟨⟨g0, g1, g2⟩, ⟨z0, z1, z2⟩, zl⟩ := hz2.facts))
                  have HM2 := Lib.hid hm2; have HZ2 := Lib.hid hz2
                  clear hm0 hm1 hm2 hz1 hz2
                  go_wp2_with fail
                  refine bodyPost_ret (v := .agg #[.int .i64 0, .int .i64 0, .int .i64 0]) (by simp [results, Try.results42, go_sem, *]) rfl ⟨rfl, ?_⟩
                  repeat (first | (with_reducible exact ((HK.out.drew.trans hk1).trans hk2)) | refine kset HB.out ?_ _ (by show B ≤ _; dsimp only; omega) _)
                · unfold askV
                  dsimp only
                  go_enter Try.func42, Try.ntmps42
                  go_wp2_with fail
                  rw [HW.out, HB.out]
                  go_region_held3 (fun w' => (w'.cell? ⟨B, 0, none⟩ = some (.int .i64 1) ∧ w'.cell? ⟨B, 1, none⟩ = some (.int .i64 1) ∧ w'.cell? ⟨B, 2, none⟩ = some (.int .i64 4) ∧ w'.cell? ⟨B, 3, none⟩ = some (.int .i64 2) ∧ w'.cell? ⟨B, 4, none⟩ = some (.int .i64 1)) ∧ (w'.cell? ⟨(B + 1), 0, none⟩ = some (.int .i64 k) ∧ w'.cell? ⟨(B + 1), 1, none⟩ = some (.int .i64 C) ∧ w'.cell? ⟨(B + 1), 2, none⟩ = some (.int .i64 T) ∧ w'.cell? ⟨(B + 1), 3, none⟩ = some (.int .i64 s) ∧ w'.cell? ⟨(B + 1), 4, none⟩ = some (.int .i64 f) ∧ w'.cell? ⟨(B + 1), 5, none⟩ = some (.int .i64 l))) (first | exact hm0 | exact hm1.out | exact hm2.out) (first
                    | (go_at_call 80; refine (rcond_lit 1 1 4 2 1 C 0 hd HHD.out _).mono ?_; rintro e w1 ⟨rfl, hk1⟩; have hm1 := HMR.out.drew.no hk1; have hz1 := HZA.out.drew.no hk1)
                    | (go_at_call 81; refine (rflag_lit 1 1 4 2 1 T ow HOW.out _).mono ?_; rintro e w2 ⟨rfl, hk2⟩; have hm2 := hm1.no hk2; have hz2 := hz1.no hk2; obtain ⟨⟨a0, a1, a2, a3, a4⟩, b0, b1, b2, b3, b4, b5⟩ := hm2.out; obtain ⟨⟨g0, g1, g2⟩, ⟨z0, z1, z2⟩, zl⟩ := hz2.facts))
                  have HM2 := Lib.hid hm2; have HZ2 := Lib.hid hz2
                  clear hm0 hm1 hm2 hz1 hz2
                  go_wp2_with fail
                  refine bodyPost_ret (v := .agg #[.int .i64 0, .int .i64 0, .int .i64 0]) (by simp [results, Try.results42, go_sem, *]) rfl ⟨rfl, ?_⟩
                  repeat (first | (with_reducible exact ((HK.out.drew.trans hk1).trans hk2)) | refine kset HB.out ?_ _ (by show B ≤ _; dsimp only; omega) _)
end Go.Proofs.Ytodaiogefgdcpaa
