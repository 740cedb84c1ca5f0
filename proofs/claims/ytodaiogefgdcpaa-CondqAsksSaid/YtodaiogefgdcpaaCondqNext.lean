/- condq.sleeps, wakes, Next: what a row asks for. -/
import Derived.Test.YtodaiogefgdcpaaCondq
namespace Go.Proofs.Ytodaiogefgdcpaa
open Go.RowKit
/-- the third box: what is handed back, naught yet -/
def ZA (B : Nat) (w : World) : Prop := w.heap[B + 2]? = some (.cells #[.int .i64 0, .int .i64 0, .int .i64 0] 72 (0, 0))
theorem ZA.facts {B : Nat} {w : World} (h : ZA B w) : (w.frozen? ⟨B + 2, 0, none⟩ = false ∧ w.frozen? ⟨B + 2, 1, none⟩ = false ∧ w.frozen? ⟨B + 2, 2, none⟩ = false) ∧ (w.cell? ⟨(B + 2), 0, none⟩ = some (.int .i64 0) ∧ w.cell? ⟨(B + 2), 1, none⟩ = some (.int .i64 0) ∧ w.cell? ⟨(B + 2), 2, none⟩ = some (.int .i64 0)) ∧ B + 2 < w.heap.size :=
  ⟨⟨blk_free h 0, blk_free h 1, blk_free h 2⟩, ⟨by rw [blk_cell h]; rfl, by rw [blk_cell h]; rfl, by rw [blk_cell h]; rfl⟩, blk_lt h⟩
theorem ZA.no {B : Nat} {w w' : World} (h : ZA B w) (k : Keeps NoS w w') : ZA B w' := k.blk h (fun f => f)
theorem ZA.drew {B : Nat} {w : World} (h : ZA B w) : ZA B w.drew := h
theorem za_new (w : World) (ms ml mt mc md k c t s f l : Int) : ∃ W, ((w.alloc (.cells #[.int .i64 ms, .int .i64 ml, .int .i64 mt, .int .i64 mc, .int .i64 md] 25)).alloc (.cells #[.int .i64 k, .int .i64 c, .int .i64 t, .int .i64 s, .int .i64 f, .int .i64 l] 70)).alloc (.cells #[.int .i64 0, .int .i64 0, .int .i64 0] 72) = W ∧ MR w.heap.size ms ml mt mc md k c t s f l W ∧ ZA w.heap.size W ∧ Keeps NoS w W := by
  refine ⟨_, rfl, (mr_new w ms ml mt mc md k c t s f l 25 70).no ((Keeps.refl NoS _).alloc _), ?_, (((Keeps.refl NoS w).alloc _).alloc _).alloc _⟩
  have h : (((w.alloc (.cells #[.int .i64 ms, .int .i64 ml, .int .i64 mt, .int .i64 mc, .int .i64 md] 25)).alloc (.cells #[.int .i64 k, .int .i64 c, .int .i64 t, .int .i64 s, .int .i64 f, .int .i64 l] 70)).alloc (.cells #[.int .i64 0, .int .i64 0, .int .i64 0] 72)).heap[((w.alloc (.cells #[.int .i64 ms, .int .i64 ml, .int .i64 mt, .int .i64 mc, .int .i64 md] 25)).alloc (.cells #[.int .i64 k, .int .i64 c, .int .i64 t, .int .i64 s, .int .i64 f, .int .i64 l] 70)).heap.size]? = some (.cells #[.int .i64 0, .int .i64 0, .int .i64 0] 72 (0, 0)) := heap_alloc_new _ _
  have h3 : ((w.alloc (.cells #[.int .i64 ms, .int .i64 ml, .int .i64 mt, .int .i64 mc, .int .i64 md] 25)).alloc (.cells #[.int .i64 k, .int .i64 c, .int .i64 t, .int .i64 s, .int .i64 f, .int .i64 l] 70)).heap.size = w.heap.size + 2 := by simp
  rw [h3] at h
  exact h
theorem MR.set3 {B : Nat} {ms ml mt mc md k c t s f l : Int} {w : World} (h : MR B ms ml mt mc md k c t s f l w) (u0 u1 u2 : Value) : MR B ms ml mt mc md k c t s f l (((w.setCell ⟨B + 2, 0, none⟩ u0).setCell ⟨B + 2, 1, none⟩ u1).setCell ⟨B + 2, 2, none⟩ u2) :=
  h.keep ((((Keeps.refl (just (B + 2)) w).setCell (p := ⟨B + 2, 0, none⟩) (fun _ => rfl) u0).setCell (p := ⟨B + 2, 1, none⟩) (fun _ => rfl) u1).setCell (p := ⟨B + 2, 2, none⟩) (fun _ => rfl) u2) (fun e => by have e' : B = B + 2 := e; omega) (fun e => by have e' : B + 1 = B + 2 := e; omega)
set_option maxHeartbeats 8000000 in
set_option maxRecDepth 100000 in
theorem sleeps_any (ms ml mt mc md k c t s f l : Int) (w : World) : Calls Try.prog 78 #[.agg #[.int .i64 ms, .int .i64 ml, .int .i64 mt, .int .i64 mc, .int .i64 md], .agg #[.int .i64 k, .int .i64 c, .int .i64 t, .int .i64 s, .int .i64 f, .int .i64 l]] w fun e w' => e = .returned (askV (sleepsA ⟨ms, ml, mt, mc, md⟩ ⟨k, c, t, s, f, l⟩)) ∧ Keeps NoS w w' := by
  obtain ⟨W, hW, hmr, hza, hk⟩ := za_new w ms ml mt mc md k c t s f l
  obtain ⟨B, hB⟩ : ∃ B, w.heap.size = B := ⟨_, rfl⟩
  rw [hB] at hmr hza
  have HMR := Lib.hid hmr; have HZA := Lib.hid hza; have HB := Lib.hid hB; have HK := Lib.hid hk; have HW := Lib.hid hW
  clear hW hmr hza hk hB
  unfold sleepsA
  dsimp only
  by_cases h0 : s = 0
  · subst h0
    rw [if_pos rfl]
    obtain ⟨x, hx⟩ : ∃ x, condP ⟨ms, ml, mt, mc, md⟩ c 1 = x := ⟨_, rfl⟩
    rw [hx]
    have HX := Lib.hid hx
    clear hx
    unfold askV
    dsimp only
    go_enter Try.func78, Try.ntmps78
    go_wp2_with fail
    rw [HW.out]
    refine (cond_lit ms ml mt mc md c 1 x HX.out _).mono ?_
    rintro e w1 ⟨rfl, hk1⟩
    have hm1 := HMR.out.no hk1
    have hz1 := HZA.out.no hk1
    obtain ⟨⟨a0, a1, a2, a3, a4⟩, b0, b1, b2, b3, b4, b5⟩ := hm1.out; obtain ⟨⟨g0, g1, g2⟩, ⟨z0, z1, z2⟩, zl⟩ := hz1.facts
    rw [HB.out]
    clear hm1 hz1
    go_wp2_with fail
    refine bodyPost_ret (v := .agg #[.int .i64 1, .int .i64 x, .int .i64 0]) (by simp [results, Try.results78, go_sem, *]) rfl ⟨rfl, ?_⟩
    repeat (first | (with_reducible exact (HK.out.trans hk1)) | refine kset HB.out ?_ _ (by show B ≤ _; dsimp only; omega) _)
  · rw [if_neg h0]
    by_cases h1 : s = 1
    · subst h1
      rw [if_pos rfl]
      obtain ⟨x, hx⟩ : ∃ x, slotP ⟨ms, ml, mt, mc, md⟩ c l = x := ⟨_, rfl⟩
      rw [hx]
      have HX := Lib.hid hx
      clear hx
      obtain ⟨y, hy⟩ : ∃ y, wrap64 (t + 1) = y := ⟨_, rfl⟩
      have hy' : IntKind.i64.wrap (t + 1) = y := (IntWalk.i64_left _).trans hy
      rw [hy]
      clear hy
      have hsl := slot_any ms ml mt mc md k c t 1 f l l
      rw [HX.out] at hsl
      have HSL := Lib.hid hsl
      clear hsl
      have hm0 := HMR.out.drew.out
      unfold askV
      dsimp only
      go_enter Try.func78, Try.ntmps78
      go_wp2_with fail
      rw [HW.out, HB.out]
      go_region_held3 (fun w' => (w'.cell? ⟨B, 0, none⟩ = some (.int .i64 ms) ∧ w'.cell? ⟨B, 1, none⟩ = some (.int .i64 ml) ∧ w'.cell? ⟨B, 2, none⟩ = some (.int .i64 mt) ∧ w'.cell? ⟨B, 3, none⟩ = some (.int .i64 mc) ∧ w'.cell? ⟨B, 4, none⟩ = some (.int .i64 md)) ∧ (w'.cell? ⟨(B + 1), 0, none⟩ = some (.int .i64 k) ∧ w'.cell? ⟨(B + 1), 1, none⟩ = some (.int .i64 c) ∧ w'.cell? ⟨(B + 1), 2, none⟩ = some (.int .i64 t) ∧ w'.cell? ⟨(B + 1), 3, none⟩ = some (.int .i64 1) ∧ w'.cell? ⟨(B + 1), 4, none⟩ = some (.int .i64 f) ∧ w'.cell? ⟨(B + 1), 5, none⟩ = some (.int .i64 l))) (first | exact hm0 | exact hm1.out | exact (hm1.set3 _ _ _).out) (first
        | (go_at_call 91; refine (HSL.out _).mono ?_; rintro e w1 ⟨rfl, hk1⟩; have hm1 := HMR.out.drew.no hk1; have hz1 := HZA.out.drew.no hk1; obtain ⟨⟨a0, a1, a2, a3, a4⟩, b0, b1, b2, b3, b4, b5⟩ := hm1.out; obtain ⟨⟨g0, g1, g2⟩, ⟨z0, z1, z2⟩, zl⟩ := hz1.facts))
      clear hm1 hz1
      go_wp2_with fail
      refine bodyPost_ret (v := .agg #[.int .i64 2, .int .i64 x, .int .i64 y]) (by simp [results, Try.results78, go_sem, *]) rfl ⟨rfl, ?_⟩
      repeat (first | (with_reducible exact (HK.out.drew.trans hk1)) | refine kset HB.out ?_ _ (by show B ≤ _; dsimp only; omega) _)
    · rw [if_neg h1]
      by_cases h2 : s = 2
      · subst h2
        rw [if_pos rfl]
        obtain ⟨x, hx⟩ : ∃ x, condP ⟨ms, ml, mt, mc, md⟩ c 1 = x := ⟨_, rfl⟩
        rw [hx]
        have HX := Lib.hid hx
        clear hx
        obtain ⟨y, hy⟩ : ∃ y, wrap64 (l + 1) = y := ⟨_, rfl⟩
        have hy' : IntKind.i64.wrap (l + 1) = y := (IntWalk.i64_left _).trans hy
        rw [hy]
        clear hy
        have hm0 := HMR.out.drew.out
        unfold askV
        dsimp only
        go_enter Try.func78, Try.ntmps78
        go_wp2_with fail
        rw [HW.out, HB.out]
        go_region_held3 (fun w' => (w'.cell? ⟨B, 0, none⟩ = some (.int .i64 ms) ∧ w'.cell? ⟨B, 1, none⟩ = some (.int .i64 ml) ∧ w'.cell? ⟨B, 2, none⟩ = some (.int .i64 mt) ∧ w'.cell? ⟨B, 3, none⟩ = some (.int .i64 mc) ∧ w'.cell? ⟨B, 4, none⟩ = some (.int .i64 md)) ∧ (w'.cell? ⟨(B + 1), 0, none⟩ = some (.int .i64 k) ∧ w'.cell? ⟨(B + 1), 1, none⟩ = some (.int .i64 c) ∧ w'.cell? ⟨(B + 1), 2, none⟩ = some (.int .i64 t) ∧ w'.cell? ⟨(B + 1), 3, none⟩ = some (.int .i64 2) ∧ w'.cell? ⟨(B + 1), 4, none⟩ = some (.int .i64 f) ∧ w'.cell? ⟨(B + 1), 5, none⟩ = some (.int .i64 l))) (first | exact hm0 | exact hm1.out | exact (hm1.set3 _ _ _).out) (first
          | (go_at_call 48; refine (cond_lit ms ml mt mc md c 1 x HX.out _).mono ?_; rintro e w1 ⟨rfl, hk1⟩; have hm1 := HMR.out.drew.no hk1; have hz1 := HZA.out.drew.no hk1; obtain ⟨⟨a0, a1, a2, a3, a4⟩, b0, b1, b2, b3, b4, b5⟩ := hm1.out; obtain ⟨⟨g0, g1, g2⟩, ⟨z0, z1, z2⟩, zl⟩ := hz1.facts))
        clear hm1 hz1
        go_wp2_with fail
        refine bodyPost_ret (v := .agg #[.int .i64 2, .int .i64 x, .int .i64 y]) (by simp [results, Try.results78, go_sem, *]) rfl ⟨rfl, ?_⟩
        repeat (first | (with_reducible exact (HK.out.drew.trans hk1)) | refine kset HB.out ?_ _ (by show B ≤ _; dsimp only; omega) _)
      · rw [if_neg h2]
        by_cases h3 : s = 3
        · subst h3
          rw [if_pos rfl]
          obtain ⟨x, hx⟩ : ∃ x, flagP ⟨ms, ml, mt, mc, md⟩ t = x := ⟨_, rfl⟩
          rw [hx]
          have HX := Lib.hid hx
          clear hx
          unfold askV
          dsimp only
          go_enter Try.func78, Try.ntmps78
          go_wp2_with fail
          rw [HW.out]
          refine (flag_lit ms ml mt mc md t x HX.out _).mono ?_
          rintro e w1 ⟨rfl, hk1⟩
          have hm1 := HMR.out.no hk1
          have hz1 := HZA.out.no hk1
          obtain ⟨⟨a0, a1, a2, a3, a4⟩, b0, b1, b2, b3, b4, b5⟩ := hm1.out; obtain ⟨⟨g0, g1, g2⟩, ⟨z0, z1, z2⟩, zl⟩ := hz1.facts
          rw [HB.out]
          clear hm1 hz1
          go_wp2_with fail
          refine bodyPost_ret (v := .agg #[.int .i64 2, .int .i64 x, .int .i64 1]) (by simp [results, Try.results78, go_sem, *]) rfl ⟨rfl, ?_⟩
          repeat (first | (with_reducible exact (HK.out.trans hk1)) | refine kset HB.out ?_ _ (by show B ≤ _; dsimp only; omega) _)
        · rw [if_neg h3]
          have h0' : (s == 0) = false := beq_eq_false_iff_ne.2 h0
          have h1' : (s == 1) = false := beq_eq_false_iff_ne.2 h1
          have h2' : (s == 2) = false := beq_eq_false_iff_ne.2 h2
          have h3' : (s == 3) = false := beq_eq_false_iff_ne.2 h3
          clear h0 h1 h2 h3
          have hm1 := HMR.out
          have hz1 := HZA.out
          obtain ⟨⟨a0, a1, a2, a3, a4⟩, b0, b1, b2, b3, b4, b5⟩ := hm1.out; obtain ⟨⟨g0, g1, g2⟩, ⟨z0, z1, z2⟩, zl⟩ := hz1.facts
          clear hm1 hz1
          unfold askV
          dsimp only
          go_enter Try.func78, Try.ntmps78
          go_upto_region 1 with fail
          rw [HW.out, HB.out]
          go_wp2_with fail
          refine bodyPost_ret (v := .agg #[.int .i64 0, .int .i64 0, .int .i64 0]) (by simp [results, Try.results78, go_sem, *]) rfl ⟨rfl, ?_⟩
          repeat (first | (with_reducible exact HK.out) | refine kset HB.out ?_ _ (by show B ≤ _; dsimp only; omega) _)
set_option maxHeartbeats 8000000 in
set_option maxRecDepth 100000 in
theorem wakes_any (ms ml mt mc md k c t s f l : Int) (hs : s ≤ 9223372036854775807) (w : World) : Calls Try.prog 79 #[.agg #[.int .i64 ms, .int .i64 ml, .int .i64 mt, .int .i64 mc, .int .i64 md], .agg #[.int .i64 k, .int .i64 c, .int .i64 t, .int .i64 s, .int .i64 f, .int .i64 l]] w fun e w' => e = .returned (askV (wakesA ⟨ms, ml, mt, mc, md⟩ ⟨k, c, t, s, f, l⟩)) ∧ Keeps NoS w w' := by
  obtain ⟨W, hW, hmr, hza, hk⟩ := za_new w ms ml mt mc md k c t s f l
  obtain ⟨B, hB⟩ : ∃ B, w.heap.size = B := ⟨_, rfl⟩
  rw [hB] at hmr hza
  have HMR := Lib.hid hmr; have HZA := Lib.hid hza; have HB := Lib.hid hB; have HK := Lib.hid hk; have HW := Lib.hid hW
  clear hW hmr hza hk hB
  unfold wakesA
  dsimp only
  by_cases h0 : s = 0
  · subst h0
    rw [if_pos rfl]
    obtain ⟨x, hx⟩ : ∃ x, condP ⟨ms, ml, mt, mc, md⟩ c 0 = x := ⟨_, rfl⟩
    rw [hx]
    have HX := Lib.hid hx
    clear hx
    unfold askV
    dsimp only
    go_enter Try.func79, Try.ntmps79
    go_wp2_with fail
    rw [HW.out]
    refine (cond_lit ms ml mt mc md c 0 x HX.out _).mono ?_
    rintro e w1 ⟨rfl, hk1⟩
    have hm1 := HMR.out.no hk1
    have hz1 := HZA.out.no hk1
    obtain ⟨⟨a0, a1, a2, a3, a4⟩, b0, b1, b2, b3, b4, b5⟩ := hm1.out; obtain ⟨⟨g0, g1, g2⟩, ⟨z0, z1, z2⟩, zl⟩ := hz1.facts
    rw [HB.out]
    clear hm1 hz1
    go_wp2_with fail
    refine bodyPost_ret (v := .agg #[.int .i64 1, .int .i64 x, .int .i64 0]) (by simp [results, Try.results79, go_sem, *]) rfl ⟨rfl, ?_⟩
    repeat (first | (with_reducible exact (HK.out.trans hk1)) | refine kset HB.out ?_ _ (by show B ≤ _; dsimp only; omega) _)
  · rw [if_neg h0]
    by_cases h1 : s = 1
    · subst h1
      rw [if_pos rfl]
      obtain ⟨x, hx⟩ : ∃ x, condP ⟨ms, ml, mt, mc, md⟩ c 1 = x := ⟨_, rfl⟩
      rw [hx]
      have HX := Lib.hid hx
      clear hx
      unfold askV
      dsimp only
      go_enter Try.func79, Try.ntmps79
      go_wp2_with fail
      rw [HW.out]
      refine (cond_lit ms ml mt mc md c 1 x HX.out _).mono ?_
      rintro e w1 ⟨rfl, hk1⟩
      have hm1 := HMR.out.no hk1
      have hz1 := HZA.out.no hk1
      obtain ⟨⟨a0, a1, a2, a3, a4⟩, b0, b1, b2, b3, b4, b5⟩ := hm1.out; obtain ⟨⟨g0, g1, g2⟩, ⟨z0, z1, z2⟩, zl⟩ := hz1.facts
      rw [HB.out]
      clear hm1 hz1
      go_wp2_with fail
      refine bodyPost_ret (v := .agg #[.int .i64 1, .int .i64 x, .int .i64 0]) (by simp [results, Try.results79, go_sem, *]) rfl ⟨rfl, ?_⟩
      repeat (first | (with_reducible exact (HK.out.trans hk1)) | refine kset HB.out ?_ _ (by show B ≤ _; dsimp only; omega) _)
    · rw [if_neg h1]
      by_cases h2 : s = 2
      · subst h2
        rw [if_pos rfl]
        obtain ⟨x, hx⟩ : ∃ x, slotP ⟨ms, ml, mt, mc, md⟩ c f = x := ⟨_, rfl⟩
        rw [hx]
        have HX := Lib.hid hx
        clear hx
        have hsl := slot_any ms ml mt mc md k c t 2 f l f
        rw [HX.out] at hsl
        have HSL := Lib.hid hsl
        clear hsl
        unfold askV
        dsimp only
        go_enter Try.func79, Try.ntmps79
        go_wp2_with fail
        rw [HW.out]
        refine (HSL.out _).mono ?_
        rintro e w1 ⟨rfl, hk1⟩
        have hm1 := HMR.out.no hk1
        have hz1 := HZA.out.no hk1
        obtain ⟨⟨a0, a1, a2, a3, a4⟩, b0, b1, b2, b3, b4, b5⟩ := hm1.out; obtain ⟨⟨g0, g1, g2⟩, ⟨z0, z1, z2⟩, zl⟩ := hz1.facts
        rw [HB.out]
        clear hm1 hz1
        go_wp2_with fail
        refine bodyPost_ret (v := .agg #[.int .i64 1, .int .i64 x, .int .i64 0]) (by simp [results, Try.results79, go_sem, *]) rfl ⟨rfl, ?_⟩
        repeat (first | (with_reducible exact (HK.out.trans hk1)) | refine kset HB.out ?_ _ (by show B ≤ _; dsimp only; omega) _)
      · rw [if_neg h2]
        by_cases h8 : s = 8
        · subst h8
          rw [if_pos rfl]
          obtain ⟨x, hx⟩ : ∃ x, condP ⟨ms, ml, mt, mc, md⟩ c 0 = x := ⟨_, rfl⟩
          rw [hx]
          have HX := Lib.hid hx
          clear hx
          obtain ⟨y, hy⟩ : ∃ y, wrap64 (f + 1) = y := ⟨_, rfl⟩
          have hy' : IntKind.i64.wrap (f + 1) = y := (IntWalk.i64_left _).trans hy
          rw [hy]
          clear hy
          have hm0 := HMR.out.drew.out
          unfold askV
          dsimp only
          go_enter Try.func79, Try.ntmps79
          go_wp2_with fail
          rw [HW.out, HB.out]
          go_region_held3 (fun w' => (w'.cell? ⟨B, 0, none⟩ = some (.int .i64 ms) ∧ w'.cell? ⟨B, 1, none⟩ = some (.int .i64 ml) ∧ w'.cell? ⟨B, 2, none⟩ = some (.int .i64 mt) ∧ w'.cell? ⟨B, 3, none⟩ = some (.int .i64 mc) ∧ w'.cell? ⟨B, 4, none⟩ = some (.int .i64 md)) ∧ (w'.cell? ⟨(B + 1), 0, none⟩ = some (.int .i64 k) ∧ w'.cell? ⟨(B + 1), 1, none⟩ = some (.int .i64 c) ∧ w'.cell? ⟨(B + 1), 2, none⟩ = some (.int .i64 t) ∧ w'.cell? ⟨(B + 1), 3, none⟩ = some (.int .i64 8) ∧ w'.cell? ⟨(B + 1), 4, none⟩ = some (.int .i64 f) ∧ w'.cell? ⟨(B + 1), 5, none⟩ = some (.int .i64 l))) (first | exact hm0 | exact hm1.out | exact (hm1.set3 _ _ _).out) (first
            | (go_at_call 48; refine (cond_lit ms ml mt mc md c 0 x HX.out _).mono ?_; rintro e w1 ⟨rfl, hk1⟩; have hm1 := HMR.out.drew.no hk1; have hz1 := HZA.out.drew.no hk1; obtain ⟨⟨a0, a1, a2, a3, a4⟩, b0, b1, b2, b3, b4, b5⟩ := hm1.out; obtain ⟨⟨g0, g1, g2⟩, ⟨z0, z1, z2⟩, zl⟩ := hz1.facts))
          clear hm1 hz1
          go_wp2_with fail
          refine bodyPost_ret (v := .agg #[.int .i64 2, .int .i64 x, .int .i64 y]) (by simp [results, Try.results79, go_sem, *]) rfl ⟨rfl, ?_⟩
          repeat (first | (with_reducible exact (HK.out.drew.trans hk1)) | refine kset HB.out ?_ _ (by show B ≤ _; dsimp only; omega) _)
        · rw [if_neg h8]
          have h0' : (s == 0) = false := beq_eq_false_iff_ne.2 h0
          have h1' : (s == 1) = false := beq_eq_false_iff_ne.2 h1
          have h2' : (s == 2) = false := beq_eq_false_iff_ne.2 h2
          have h8' : (s == 8) = false := beq_eq_false_iff_ne.2 h8
          clear h0 h1 h2 h8
          by_cases h10 : 10 ≤ s
          · have d1 : decide (10 ≤ s) = true := decide_eq_true h10
            have hy' : IntKind.i64.wrap (s - 10) = s - 10 := (IntWalk.i64_left _).trans (wrap64_id (by omega) (by omega))
            obtain ⟨x, hx⟩ : ∃ x, flagP ⟨ms, ml, mt, mc, md⟩ (s - 10) = x := ⟨_, rfl⟩
            rw [hx]
            have HX := Lib.hid hx
            clear hx
            by_cases hx0 : 0 ≤ x
            · rw [if_pos ⟨h10, hx0⟩]
              have d2 : decide (0 ≤ x) = true := decide_eq_true hx0
              clear hs h10 hx0

              have hm0 := 0
              clear hm0
              unfold askV
              dsimp only
              go_enter Try.func79, Try.ntmps79
              go_wp2_with fail
              rw [HW.out]
              refine (flag_lit ms ml mt mc md (s - 10) x HX.out _).mono ?_
              rintro e w1 ⟨rfl, hk1⟩
              have hm1 := HMR.out.no hk1
              have hz1 := HZA.out.no hk1
              obtain ⟨⟨a0, a1, a2, a3, a4⟩, b0, b1, b2, b3, b4, b5⟩ := hm1.out; obtain ⟨⟨g0, g1, g2⟩, ⟨z0, z1, z2⟩, zl⟩ := hz1.facts
              rw [HB.out]
              go_wp2_with (go_at_call 49; refine (flag_lit ms ml mt mc md (s - 10) x HX.out _).mono ?_; rintro e w2 ⟨rfl, hk2⟩; have hm2 := hm1.no hk2; have hz2 := hz1.no hk2; obtain ⟨⟨A0, A1, A2, A3, A4⟩, C0, C1, C2, C3, C4, C5⟩ := hm2.out; obtain ⟨⟨G0, G1, G2⟩, ⟨Z0, Z1, Z2⟩, ZL⟩ := hz2.facts)
              refine bodyPost_ret (v := .agg #[.int .i64 2, .int .i64 x, .int .i64 0]) (by simp [results, Try.results79, go_sem, *]) rfl ⟨rfl, ?_⟩
              repeat (first | (with_reducible exact ((HK.out.trans hk1).trans hk2)) | refine kset HB.out ?_ _ (by show B ≤ _; dsimp only; omega) _)
            · rw [if_neg (fun h => hx0 h.2)]
              have d2 : decide (0 ≤ x) = false := decide_eq_false hx0
              clear hs h10 hx0
              unfold askV
              dsimp only
              go_enter Try.func79, Try.ntmps79
              go_wp2_with fail
              rw [HW.out]
              refine (flag_lit ms ml mt mc md (s - 10) x HX.out _).mono ?_
              rintro e w1 ⟨rfl, hk1⟩
              have hm1 := HMR.out.no hk1
              have hz1 := HZA.out.no hk1
              obtain ⟨⟨a0, a1, a2, a3, a4⟩, b0, b1, b2, b3, b4, b5⟩ := hm1.out; obtain ⟨⟨g0, g1, g2⟩, ⟨z0, z1, z2⟩, zl⟩ := hz1.facts
              rw [HB.out]
              go_wp2_with fail
              refine bodyPost_ret (v := .agg #[.int .i64 0, .int .i64 0, .int .i64 0]) (by simp [results, Try.results79, go_sem, *]) rfl ⟨rfl, ?_⟩
              repeat (first | (with_reducible exact (HK.out.trans hk1)) | refine kset HB.out ?_ _ (by show B ≤ _; dsimp only; omega) _)
          · rw [if_neg (fun h => h10 h.1)]
            have d1 : decide (10 ≤ s) = false := decide_eq_false h10
            clear h10
            have hm1 := HMR.out
            have hz1 := HZA.out
            obtain ⟨⟨a0, a1, a2, a3, a4⟩, b0, b1, b2, b3, b4, b5⟩ := hm1.out; obtain ⟨⟨g0, g1, g2⟩, ⟨z0, z1, z2⟩, zl⟩ := hz1.facts
            clear hm1 hz1
            unfold askV
            dsimp only
            go_enter Try.func79, Try.ntmps79
            go_upto_region 1 with fail
            rw [HW.out, HB.out]
            go_wp2_with fail
            refine bodyPost_ret (v := .agg #[.int .i64 0, .int .i64 0, .int .i64 0]) (by simp [results, Try.results79, go_sem, *]) rfl ⟨rfl, ?_⟩
            repeat (first | (with_reducible exact HK.out) | refine kset HB.out ?_ _ (by show B ≤ _; dsimp only; omega) _)
end Go.Proofs.Ytodaiogefgdcpaa
