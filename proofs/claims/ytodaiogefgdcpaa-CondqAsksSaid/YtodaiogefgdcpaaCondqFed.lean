/- condq.Next, Start, Fed: each with what it computes. -/
import Derived.Test.YtodaiogefgdcpaaCondqNext
namespace Go.Proofs.Ytodaiogefgdcpaa
open Go.RowKit
set_option maxHeartbeats 8000000 in
set_option maxRecDepth 100000 in
theorem next_any (ms ml mt mc md k c t s f l : Int) (hs : s ≤ 9223372036854775807) (w : World) : Calls Try.prog 41 #[.agg #[.int .i64 ms, .int .i64 ml, .int .i64 mt, .int .i64 mc, .int .i64 md], .agg #[.int .i64 k, .int .i64 c, .int .i64 t, .int .i64 s, .int .i64 f, .int .i64 l]] w fun e w' => e = .returned (askV (nextA ⟨ms, ml, mt, mc, md⟩ ⟨k, c, t, s, f, l⟩)) ∧ Keeps NoS w w' := by
  obtain ⟨W, hW, hmr, hza, hk⟩ := za_new w ms ml mt mc md k c t s f l
  obtain ⟨B, hB⟩ : ∃ B, w.heap.size = B := ⟨_, rfl⟩
  rw [hB] at hmr hza
  have HMR := Lib.hid hmr; have HZA := Lib.hid hza; have HB := Lib.hid hB; have HK := Lib.hid hk; have HW := Lib.hid hW
  clear hW hmr hza hk hB
  unfold nextA
  have hft := fitsc_any ms ml mt mc md k c t s f l
  obtain ⟨b, hb⟩ : ∃ b, fitsB ⟨ms, ml, mt, mc, md⟩ ⟨k, c, t, s, f, l⟩ = b := ⟨_, rfl⟩
  rw [hb] at hft
  rw [hb]
  have HFT := Lib.hid hft
  clear hft hb
  dsimp only
  cases b with
  | false =>
    rw [if_neg (by decide)]
    clear hs
    unfold askV
    dsimp only
    go_enter Try.func41, Try.ntmps41
    go_wp2_with fail
    rw [HW.out]
    refine (HFT.out _).mono ?_
    rintro e w1 ⟨rfl, hk1⟩
    have hm1 := HMR.out.no hk1
    have hz1 := HZA.out.no hk1
    obtain ⟨⟨a0, a1, a2, a3, a4⟩, b0, b1, b2, b3, b4, b5⟩ := hm1.out; obtain ⟨⟨g0, g1, g2⟩, ⟨z0, z1, z2⟩, zl⟩ := hz1.facts
    rw [HB.out]
    clear hm1 hz1
    go_wp2_with fail
    refine bodyPost_ret (v := .agg #[.int .i64 0, .int .i64 0, .int .i64 0]) (by simp [results, Try.results41, go_sem, *]) rfl ⟨rfl, ?_⟩
    repeat (first | (with_reducible exact (HK.out.trans hk1)) | refine kset HB.out ?_ _ (by show B ≤ _; dsimp only; omega) _)
  | true =>
    rw [if_pos rfl]
    by_cases k1 : k = 1
    · subst k1
      rw [if_pos rfl]
      have hsl := sleeps_any ms ml mt mc md 1 c t s f l
      clear hs
      obtain ⟨⟨x, y, z⟩, hx⟩ : ∃ q, sleepsA ⟨ms, ml, mt, mc, md⟩ ⟨1, c, t, s, f, l⟩ = q := ⟨_, rfl⟩
      rw [hx] at hsl
      rw [hx]
      have HSL := Lib.hid hsl
      clear hsl hx
      unfold askV
      dsimp only
      go_enter Try.func41, Try.ntmps41
      go_wp2_with fail
      rw [HW.out]
      refine (HFT.out _).mono ?_
      rintro e w1 ⟨rfl, hk1⟩
      have hm1 := HMR.out.no hk1
      have hz1 := HZA.out.no hk1
      obtain ⟨⟨a0, a1, a2, a3, a4⟩, b0, b1, b2, b3, b4, b5⟩ := hm1.out; obtain ⟨⟨g0, g1, g2⟩, ⟨z0, z1, z2⟩, zl⟩ := hz1.facts
      rw [HB.out]
      go_wp2_with (go_at_call 78; refine (HSL.out _).mono ?_; unfold askV; dsimp only; rintro e w2 ⟨rfl, hk2⟩; have hm2 := hm1.no hk2; have hz2 := hz1.no hk2; obtain ⟨⟨G0, G1, G2⟩, ⟨Z0, Z1, Z2⟩, ZL⟩ := hz2.facts)
      refine bodyPost_ret (v := .agg #[.int .i64 x, .int .i64 y, .int .i64 z]) (by simp [results, Try.results41, go_sem, *]) rfl ⟨rfl, ?_⟩
      repeat (first | (with_reducible exact ((HK.out.trans hk1).trans hk2)) | refine kset HB.out ?_ _ (by show B ≤ _; dsimp only; omega) _)
    · rw [if_neg k1]
      have k1' : (k == 1) = false := beq_eq_false_iff_ne.2 k1
      by_cases k2 : k = 2
      · subst k2
        rw [if_pos (.inl rfl)]
        have hsl := fun w => wakes_any ms ml mt mc md 2 c t s f l hs w
        clear hs k1
        obtain ⟨⟨x, y, z⟩, hx⟩ : ∃ q, wakesA ⟨ms, ml, mt, mc, md⟩ ⟨2, c, t, s, f, l⟩ = q := ⟨_, rfl⟩
        rw [hx] at hsl
        rw [hx]
        have HSL := Lib.hid hsl
        clear hsl hx
        unfold askV
        dsimp only
        go_enter Try.func41, Try.ntmps41
        go_wp2_with fail
        rw [HW.out]
        refine (HFT.out _).mono ?_
        rintro e w1 ⟨rfl, hk1⟩
        have hm1 := HMR.out.no hk1
        have hz1 := HZA.out.no hk1
        obtain ⟨⟨a0, a1, a2, a3, a4⟩, b0, b1, b2, b3, b4, b5⟩ := hm1.out; obtain ⟨⟨g0, g1, g2⟩, ⟨z0, z1, z2⟩, zl⟩ := hz1.facts
        rw [HB.out]
        go_wp2_with (go_at_call 79; refine (HSL.out _).mono ?_; unfold askV; dsimp only; rintro e w2 ⟨rfl, hk2⟩; have hm2 := hm1.no hk2; have hz2 := hz1.no hk2; obtain ⟨⟨G0, G1, G2⟩, ⟨Z0, Z1, Z2⟩, ZL⟩ := hz2.facts)
        refine bodyPost_ret (v := .agg #[.int .i64 x, .int .i64 y, .int .i64 z]) (by simp [results, Try.results41, go_sem, *]) rfl ⟨rfl, ?_⟩
        repeat (first | (with_reducible exact ((HK.out.trans hk1).trans hk2)) | refine kset HB.out ?_ _ (by show B ≤ _; dsimp only; omega) _)
      · have k2' : (k == 2) = false := beq_eq_false_iff_ne.2 k2
        by_cases k3 : k = 3
        · subst k3
          rw [if_pos (.inr rfl)]
          have hsl := fun w => wakes_any ms ml mt mc md 3 c t s f l hs w
          clear hs k1 k2
          obtain ⟨⟨x, y, z⟩, hx⟩ : ∃ q, wakesA ⟨ms, ml, mt, mc, md⟩ ⟨3, c, t, s, f, l⟩ = q := ⟨_, rfl⟩
          rw [hx] at hsl
          rw [hx]
          have HSL := Lib.hid hsl
          clear hsl hx
          unfold askV
          dsimp only
          go_enter Try.func41, Try.ntmps41
          go_wp2_with fail
          rw [HW.out]
          refine (HFT.out _).mono ?_
          rintro e w1 ⟨rfl, hk1⟩
          have hm1 := HMR.out.no hk1
          have hz1 := HZA.out.no hk1
          obtain ⟨⟨a0, a1, a2, a3, a4⟩, b0, b1, b2, b3, b4, b5⟩ := hm1.out; obtain ⟨⟨g0, g1, g2⟩, ⟨z0, z1, z2⟩, zl⟩ := hz1.facts
          rw [HB.out]
          go_wp2_with (go_at_call 79; refine (HSL.out _).mono ?_; unfold askV; dsimp only; rintro e w2 ⟨rfl, hk2⟩; have hm2 := hm1.no hk2; have hz2 := hz1.no hk2; obtain ⟨⟨G0, G1, G2⟩, ⟨Z0, Z1, Z2⟩, ZL⟩ := hz2.facts)
          refine bodyPost_ret (v := .agg #[.int .i64 x, .int .i64 y, .int .i64 z]) (by simp [results, Try.results41, go_sem, *]) rfl ⟨rfl, ?_⟩
          repeat (first | (with_reducible exact ((HK.out.trans hk1).trans hk2)) | refine kset HB.out ?_ _ (by show B ≤ _; dsimp only; omega) _)
        · rw [if_neg (fun h => h.elim k2 k3)]
          have k3' : (k == 3) = false := beq_eq_false_iff_ne.2 k3
          clear hs k1 k2 k3
          unfold askV
          dsimp only
          go_enter Try.func41, Try.ntmps41
          go_wp2_with fail
          rw [HW.out]
          refine (HFT.out _).mono ?_
          rintro e w1 ⟨rfl, hk1⟩
          have hm1 := HMR.out.no hk1
          have hz1 := HZA.out.no hk1
          obtain ⟨⟨a0, a1, a2, a3, a4⟩, b0, b1, b2, b3, b4, b5⟩ := hm1.out; obtain ⟨⟨g0, g1, g2⟩, ⟨z0, z1, z2⟩, zl⟩ := hz1.facts
          rw [HB.out]
          clear hm1 hz1
          go_wp2_with fail
          refine bodyPost_ret (v := .agg #[.int .i64 0, .int .i64 0, .int .i64 0]) (by simp [results, Try.results41, go_sem, *]) rfl ⟨rfl, ?_⟩
          repeat (first | (with_reducible exact (HK.out.trans hk1)) | refine kset HB.out ?_ _ (by show B ≤ _; dsimp only; omega) _)
set_option maxHeartbeats 4000000 in
set_option maxRecDepth 100000 in
theorem startc_any (k c t : Int) (w : World) : Calls Try.prog 46 #[.int .i64 k, .int .i64 c, .int .i64 t] w fun e w' => e = .returned (rowV (startR k c t)) ∧ Keeps NoS w w' := by
  have hw : w.heap.size ≤ w.heap.size := Nat.le_refl _
  unfold startR rowV
  dsimp only
  obtain ⟨B, hB⟩ : ∃ B, w.heap.size = B := ⟨_, rfl⟩
  have HB := Lib.hid hB
  clear hB hw
  by_cases h1 : k < 1
  · have d1 : decide (k < 1) = true := decide_eq_true h1
    rw [if_pos (.inl h1)]
    clear h1
    go_enter Try.func46, Try.ntmps46
    go_wp2_with fail
    refine bodyPost_ret (v := .agg #[.int .i64 k, .int .i64 c, .int .i64 t, .int .i64 9, .int .i64 0, .int .i64 0]) (by simp [results, Try.results46, go_sem, *]) rfl ⟨rfl, ?_⟩
    repeat (first | (with_reducible exact ((Keeps.refl NoS w).alloc _).alloc _) | (with_reducible exact (Keeps.refl NoS w).alloc _) | refine Keeps.alloc ?_ _ | refine kset HB.out ?_ _ (by show B ≤ _; dsimp only; first | omega | (have := HB.out; omega) | (rw [HB.out]; omega)) _)
  · have d1 : decide (k < 1) = false := decide_eq_false h1
    by_cases h3 : 3 < k
    · have d2 : decide (3 < k) = true := decide_eq_true h3
      rw [if_pos (.inr h3)]
      clear h1 h3
      go_enter Try.func46, Try.ntmps46
      go_wp2_with fail
      refine bodyPost_ret (v := .agg #[.int .i64 k, .int .i64 c, .int .i64 t, .int .i64 9, .int .i64 0, .int .i64 0]) (by simp [results, Try.results46, go_sem, *]) rfl ⟨rfl, ?_⟩
      repeat (first | (with_reducible exact ((Keeps.refl NoS w).alloc _).alloc _) | (with_reducible exact (Keeps.refl NoS w).alloc _) | refine Keeps.alloc ?_ _ | refine kset HB.out ?_ _ (by show B ≤ _; dsimp only; first | omega | (have := HB.out; omega) | (rw [HB.out]; omega)) _)
    · have d2 : decide (3 < k) = false := decide_eq_false h3
      rw [if_neg (fun h => h.elim h1 h3)]
      clear h1 h3
      go_enter Try.func46, Try.ntmps46
      go_wp2_with fail
      refine bodyPost_ret (v := .agg #[.int .i64 k, .int .i64 c, .int .i64 t, .int .i64 0, .int .i64 0, .int .i64 0]) (by simp [results, Try.results46, go_sem, *]) rfl ⟨rfl, ?_⟩
      repeat (first | (with_reducible exact ((Keeps.refl NoS w).alloc _).alloc _) | (with_reducible exact (Keeps.refl NoS w).alloc _) | refine Keeps.alloc ?_ _ | refine kset HB.out ?_ _ (by show B ≤ _; dsimp only; first | omega | (have := HB.out; omega) | (rw [HB.out]; omega)) _)
/-- three boxes: a map, a row, what is handed back -/
def R3 (B : Nat) (ms ml mt mc md k c t s f l : Int) (w : World) : Prop := MapAt w B ms ml mt mc md ∧ w.heap[B + 1]? = some (.cells #[.int .i64 k, .int .i64 c, .int .i64 t, .int .i64 s, .int .i64 f, .int .i64 l] 70 (0, 0)) ∧ w.heap[B + 2]? = some (.cells #[.int .i64 0, .int .i64 0, .int .i64 0, .int .i64 0, .int .i64 0, .int .i64 0] 70 (0, 0))
theorem R3.no {B : Nat} {ms ml mt mc md k c t s f l : Int} {w w' : World} (h : R3 B ms ml mt mc md k c t s f l w) (kk : Keeps NoS w w') : R3 B ms ml mt mc md k c t s f l w' := ⟨h.1.keep kk (fun f => f), kk.blk h.2.1 (fun f => f), kk.blk h.2.2 (fun f => f)⟩
theorem R3.facts {B : Nat} {ms ml mt mc md k c t s f l : Int} {w : World} (h : R3 B ms ml mt mc md k c t s f l w) : (w.cell? ⟨B, 0, none⟩ = some (.int .i64 ms) ∧ w.cell? ⟨B, 1, none⟩ = some (.int .i64 ml) ∧ w.cell? ⟨B, 2, none⟩ = some (.int .i64 mt) ∧ w.cell? ⟨B, 3, none⟩ = some (.int .i64 mc) ∧ w.cell? ⟨B, 4, none⟩ = some (.int .i64 md)) ∧ (w.cell? ⟨(B + 1), 0, none⟩ = some (.int .i64 k) ∧ w.cell? ⟨(B + 1), 1, none⟩ = some (.int .i64 c) ∧ w.cell? ⟨(B + 1), 2, none⟩ = some (.int .i64 t) ∧ w.cell? ⟨(B + 1), 3, none⟩ = some (.int .i64 s) ∧ w.cell? ⟨(B + 1), 4, none⟩ = some (.int .i64 f) ∧ w.cell? ⟨(B + 1), 5, none⟩ = some (.int .i64 l)) ∧ (w.cell? ⟨(B + 2), 0, none⟩ = some (.int .i64 0) ∧ w.cell? ⟨(B + 2), 1, none⟩ = some (.int .i64 0) ∧ w.cell? ⟨(B + 2), 2, none⟩ = some (.int .i64 0) ∧ w.cell? ⟨(B + 2), 3, none⟩ = some (.int .i64 0) ∧ w.cell? ⟨(B + 2), 4, none⟩ = some (.int .i64 0) ∧ w.cell? ⟨(B + 2), 5, none⟩ = some (.int .i64 0)) ∧ (w.frozen? ⟨(B + 1), 0, none⟩ = false ∧ w.frozen? ⟨(B + 1), 1, none⟩ = false ∧ w.frozen? ⟨(B + 1), 2, none⟩ = false ∧ w.frozen? ⟨(B + 1), 3, none⟩ = false ∧ w.frozen? ⟨(B + 1), 4, none⟩ = false ∧ w.frozen? ⟨(B + 1), 5, none⟩ = false) ∧ (w.frozen? ⟨(B + 2), 0, none⟩ = false ∧ w.frozen? ⟨(B + 2), 1, none⟩ = false ∧ w.frozen? ⟨(B + 2), 2, none⟩ = false ∧ w.frozen? ⟨(B + 2), 3, none⟩ = false ∧ w.frozen? ⟨(B + 2), 4, none⟩ = false ∧ w.frozen? ⟨(B + 2), 5, none⟩ = false) ∧ B + 1 < w.heap.size ∧ B + 2 < w.heap.size := by
  obtain ⟨h1, h2, h3⟩ := h
  exact ⟨h1, ⟨by rw [blk_cell h2]; rfl, by rw [blk_cell h2]; rfl, by rw [blk_cell h2]; rfl, by rw [blk_cell h2]; rfl, by rw [blk_cell h2]; rfl, by rw [blk_cell h2]; rfl⟩, ⟨by rw [blk_cell h3]; rfl, by rw [blk_cell h3]; rfl, by rw [blk_cell h3]; rfl, by rw [blk_cell h3]; rfl, by rw [blk_cell h3]; rfl, by rw [blk_cell h3]; rfl⟩, ⟨blk_free h2 0, blk_free h2 1, blk_free h2 2, blk_free h2 3, blk_free h2 4, blk_free h2 5⟩, ⟨blk_free h3 0, blk_free h3 1, blk_free h3 2, blk_free h3 3, blk_free h3 4, blk_free h3 5⟩, blk_lt h2, blk_lt h3⟩
theorem r3_new (w : World) (ms ml mt mc md k c t s f l : Int) : ∃ W, ((w.alloc (.cells #[.int .i64 ms, .int .i64 ml, .int .i64 mt, .int .i64 mc, .int .i64 md] 25)).alloc (.cells #[.int .i64 k, .int .i64 c, .int .i64 t, .int .i64 s, .int .i64 f, .int .i64 l] 70)).alloc (.cells #[.int .i64 0, .int .i64 0, .int .i64 0, .int .i64 0, .int .i64 0, .int .i64 0] 70) = W ∧ R3 w.heap.size ms ml mt mc md k c t s f l W ∧ Keeps NoS w W := by
  refine ⟨_, rfl, ⟨((mapAt_new w ms ml mt mc md 25).keep ((Keeps.refl NoS _).alloc _) (fun f => f)).keep ((Keeps.refl NoS _).alloc _) (fun f => f), ?_, ?_⟩, (((Keeps.refl NoS w).alloc _).alloc _).alloc _⟩
  · have h : ((w.alloc (.cells #[.int .i64 ms, .int .i64 ml, .int .i64 mt, .int .i64 mc, .int .i64 md] 25)).alloc (.cells #[.int .i64 k, .int .i64 c, .int .i64 t, .int .i64 s, .int .i64 f, .int .i64 l] 70)).heap[(w.alloc (.cells #[.int .i64 ms, .int .i64 ml, .int .i64 mt, .int .i64 mc, .int .i64 md] 25)).heap.size]? = some (.cells #[.int .i64 k, .int .i64 c, .int .i64 t, .int .i64 s, .int .i64 f, .int .i64 l] 70 (0, 0)) := heap_alloc_new _ _
    have h3 : (w.alloc (.cells #[.int .i64 ms, .int .i64 ml, .int .i64 mt, .int .i64 mc, .int .i64 md] 25)).heap.size = w.heap.size + 1 := by simp
    rw [h3] at h
    exact ((Keeps.refl NoS _).alloc (.cells #[.int .i64 0, .int .i64 0, .int .i64 0, .int .i64 0, .int .i64 0, .int .i64 0] 70)).blk h (fun f => f)
  · have h : (((w.alloc (.cells #[.int .i64 ms, .int .i64 ml, .int .i64 mt, .int .i64 mc, .int .i64 md] 25)).alloc (.cells #[.int .i64 k, .int .i64 c, .int .i64 t, .int .i64 s, .int .i64 f, .int .i64 l] 70)).alloc (.cells #[.int .i64 0, .int .i64 0, .int .i64 0, .int .i64 0, .int .i64 0, .int .i64 0] 70)).heap[((w.alloc (.cells #[.int .i64 ms, .int .i64 ml, .int .i64 mt, .int .i64 mc, .int .i64 md] 25)).alloc (.cells #[.int .i64 k, .int .i64 c, .int .i64 t, .int .i64 s, .int .i64 f, .int .i64 l] 70)).heap.size]? = some (.cells #[.int .i64 0, .int .i64 0, .int .i64 0, .int .i64 0, .int .i64 0, .int .i64 0] 70 (0, 0)) := heap_alloc_new _ _
    have h3 : ((w.alloc (.cells #[.int .i64 ms, .int .i64 ml, .int .i64 mt, .int .i64 mc, .int .i64 md] 25)).alloc (.cells #[.int .i64 k, .int .i64 c, .int .i64 t, .int .i64 s, .int .i64 f, .int .i64 l] 70)).heap.size = w.heap.size + 2 := by simp
    rw [h3] at h
    exact h
theorem fld_ask (a b c : Int) (w : World) : (Instr.field 72 (.agg #[.int .i64 a, .int .i64 b, .int .i64 c]) 0).run Try.prog w = .ok (.int .i64 a) w := by kernel_rfl
theorem next_k1 {m : MapS} {r : RowS} (h : ¬ (nextA m r).k = 0) (hk : r.k = 1) : r.s = 0 ∨ r.s = 1 ∨ r.s = 2 ∨ r.s = 3 := by
  unfold nextA at h
  rw [hk] at h
  by_cases hf : fitsB m r = true
  · rw [if_pos hf, if_pos rfl] at h
    unfold sleepsA at h
    by_cases h0 : r.s = 0
    · exact .inl h0
    · by_cases h1 : r.s = 1
      · exact .inr (.inl h1)
      · by_cases h2 : r.s = 2
        · exact .inr (.inr (.inl h2))
        · by_cases h3 : r.s = 3
          · exact .inr (.inr (.inr h3))
          · rw [if_neg h0, if_neg h1, if_neg h2, if_neg h3] at h
            exact absurd rfl h
  · rw [if_neg hf] at h
    exact absurd rfl h
set_option maxHeartbeats 16000000 in
set_option maxRecDepth 100000 in
theorem fed_any (ms ml mt mc md k c t s f l v : Int) (hs : s ≤ 9223372036854775807) (hmt : mt ≤ 1000) (w : World) : Calls Try.prog 44 #[.agg #[.int .i64 ms, .int .i64 ml, .int .i64 mt, .int .i64 mc, .int .i64 md], .agg #[.int .i64 k, .int .i64 c, .int .i64 t, .int .i64 s, .int .i64 f, .int .i64 l], .int .i64 v] w fun e w' => e = .returned (rowV (fedR ⟨ms, ml, mt, mc, md⟩ ⟨k, c, t, s, f, l⟩ v)) ∧ Keeps NoS w w' := by
  obtain ⟨W, hW, hr3, hk⟩ := r3_new w ms ml mt mc md k c t s f l
  obtain ⟨B, hB⟩ : ∃ B, w.heap.size = B := ⟨_, rfl⟩
  rw [hB] at hr3
  have hnx := fun w => next_any ms ml mt mc md k c t s f l hs w
  have hk1 := @next_k1 ⟨ms, ml, mt, mc, md⟩ ⟨k, c, t, s, f, l⟩
  unfold fedR
  dsimp only at hk1 ⊢
  obtain ⟨⟨ak, aa, av⟩, hn⟩ : ∃ q, nextA ⟨ms, ml, mt, mc, md⟩ ⟨k, c, t, s, f, l⟩ = q := ⟨_, rfl⟩
  rw [hn] at hnx hk1
  rw [hn]
  unfold askV at hnx
  dsimp only at hnx hk1 ⊢
  have HR3 := Lib.hid hr3; have HB := Lib.hid hB; have HK := Lib.hid hk; have HW := Lib.hid hW; have HNX := Lib.hid hnx; have HK1 := Lib.hid hk1
  clear hW hr3 hk hB hnx hn hs hk1
  by_cases ha : ak = 0
  · subst ha
    rw [if_pos rfl]
    have hfl := fld_ask 0 aa av
    unfold rowV
    dsimp only
    go_enter Try.func44, Try.ntmps44
    go_wp2_with fail
    rw [HW.out]
    refine (HNX.out _).mono ?_
    rintro e w1 ⟨rfl, hk1⟩
    have hr1 := HR3.out.no hk1
    obtain ⟨⟨a0, a1, a2, a3, a4⟩, ⟨b0, b1, b2, b3, b4, b5⟩, ⟨z0, z1, z2, z3, z4, z5⟩, ⟨p0, p1, p2, p3, p4, p5⟩, ⟨q0, q1, q2, q3, q4, q5⟩, l1, l2⟩ := hr1.facts
    rw [HB.out]
    clear hr1
    go_wp2_with fail
    refine bodyPost_ret (v := .agg #[.int .i64 k, .int .i64 c, .int .i64 t, .int .i64 s, .int .i64 f, .int .i64 l]) (by simp [results, Try.results44, go_sem, *]) rfl ⟨rfl, ?_⟩
    repeat (first | (with_reducible exact (HK.out.trans hk1)) | refine kset HB.out ?_ _ (by show B ≤ _; dsimp only; omega) _)
  · rw [if_neg ha]
    have ha' : (ak == 0) = false := beq_eq_false_iff_ne.2 ha
    by_cases k1 : k = 1
    · subst k1
      have hsp := HK1.out ha rfl
      rw [if_pos (show (1 : Int) = 1 from rfl)]
      clear ha hmt
      rcases hsp with rfl | rfl | rfl | rfl
      · rw [if_pos (show (0 : Int) = 0 from rfl)]
        have hfl := fld_ask ak aa av
        unfold rowV
        dsimp only
        go_enter Try.func44, Try.ntmps44
        go_wp2_with fail
        rw [HW.out]
        refine (HNX.out _).mono ?_
        rintro e w1 ⟨rfl, hk1⟩
        have hr1 := HR3.out.no hk1
        obtain ⟨⟨a0, a1, a2, a3, a4⟩, ⟨b0, b1, b2, b3, b4, b5⟩, ⟨z0, z1, z2, z3, z4, z5⟩, ⟨p0, p1, p2, p3, p4, p5⟩, ⟨q0, q1, q2, q3, q4, q5⟩, l1, l2⟩ := hr1.facts
        rw [HB.out]
        clear hr1
        go_wp2_with fail
        refine bodyPost_ret (v := .agg #[.int .i64 1, .int .i64 c, .int .i64 t, .int .i64 1, .int .i64 f, .int .i64 v]) (by simp [results, Try.results44, go_sem, *]) rfl ⟨rfl, ?_⟩
        repeat (first | (with_reducible exact (HK.out.trans hk1)) | refine kset HB.out ?_ _ (by show B ≤ _; dsimp only; omega) _)
      · rw [if_neg (show ¬ (1 : Int) = 0 by decide), if_neg (show ¬ (1 : Int) = 3 by decide)]
        (try dsimp only)
        have hfl := fld_ask ak aa av
        unfold rowV
        dsimp only
        go_enter Try.func44, Try.ntmps44
        go_wp2_with fail
        rw [HW.out]
        refine (HNX.out _).mono ?_
        rintro e w1 ⟨rfl, hk1⟩
        have hr1 := HR3.out.no hk1
        obtain ⟨⟨a0, a1, a2, a3, a4⟩, ⟨b0, b1, b2, b3, b4, b5⟩, ⟨z0, z1, z2, z3, z4, z5⟩, ⟨p0, p1, p2, p3, p4, p5⟩, ⟨q0, q1, q2, q3, q4, q5⟩, l1, l2⟩ := hr1.facts
        rw [HB.out]
        clear hr1
        go_wp2_with fail
        refine bodyPost_ret (v := .agg #[.int .i64 1, .int .i64 c, .int .i64 t, .int .i64 2, .int .i64 f, .int .i64 l]) (by simp [results, Try.results44, go_sem, *]) rfl ⟨rfl, ?_⟩
        repeat (first | (with_reducible exact (HK.out.trans hk1)) | refine kset HB.out ?_ _ (by show B ≤ _; dsimp only; omega) _)
      · rw [if_neg (show ¬ (2 : Int) = 0 by decide), if_neg (show ¬ (2 : Int) = 3 by decide)]
        (try dsimp only)
        have hfl := fld_ask ak aa av
        unfold rowV
        dsimp only
        go_enter Try.func44, Try.ntmps44
        go_wp2_with fail
        rw [HW.out]
        refine (HNX.out _).mono ?_
        rintro e w1 ⟨rfl, hk1⟩
        have hr1 := HR3.out.no hk1
        obtain ⟨⟨a0, a1, a2, a3, a4⟩, ⟨b0, b1, b2, b3, b4, b5⟩, ⟨z0, z1, z2, z3, z4, z5⟩, ⟨p0, p1, p2, p3, p4, p5⟩, ⟨q0, q1, q2, q3, q4, q5⟩, l1, l2⟩ := hr1.facts
        rw [HB.out]
        clear hr1
        go_wp2_with fail
        refine bodyPost_ret (v := .agg #[.int .i64 1, .int .i64 c, .int .i64 t, .int .i64 3, .int .i64 f, .int .i64 l]) (by simp [results, Try.results44, go_sem, *]) rfl ⟨rfl, ?_⟩
        repeat (first | (with_reducible exact (HK.out.trans hk1)) | refine kset HB.out ?_ _ (by show B ≤ _; dsimp only; omega) _)
      · rw [if_neg (show ¬ (3 : Int) = 0 by decide), if_pos (show (3 : Int) = 3 from rfl)]
        have hfl := fld_ask ak aa av
        unfold rowV
        dsimp only
        go_enter Try.func44, Try.ntmps44
        go_wp2_with fail
        rw [HW.out]
        refine (HNX.out _).mono ?_
        rintro e w1 ⟨rfl, hk1⟩
        have hr1 := HR3.out.no hk1
        obtain ⟨⟨a0, a1, a2, a3, a4⟩, ⟨b0, b1, b2, b3, b4, b5⟩, ⟨z0, z1, z2, z3, z4, z5⟩, ⟨p0, p1, p2, p3, p4, p5⟩, ⟨q0, q1, q2, q3, q4, q5⟩, l1, l2⟩ := hr1.facts
        rw [HB.out]
        clear hr1
        go_wp2_with fail
        refine bodyPost_ret (v := .agg #[.int .i64 1, .int .i64 c, .int .i64 t, .int .i64 9, .int .i64 f, .int .i64 l]) (by simp [results, Try.results44, go_sem, *]) rfl ⟨rfl, ?_⟩
        repeat (first | (with_reducible exact (HK.out.trans hk1)) | refine kset HB.out ?_ _ (by show B ≤ _; dsimp only; omega) _)
    · rw [if_neg k1]
      have k1' : (k == 1) = false := beq_eq_false_iff_ne.2 k1
      clear k1 ha
      by_cases s0 : s = 0
      · subst s0
        rw [if_pos rfl]
        have hfl := fld_ask ak aa av
        unfold rowV
        dsimp only
        go_enter Try.func44, Try.ntmps44
        go_wp2_with fail
        rw [HW.out]
        refine (HNX.out _).mono ?_
        rintro e w1 ⟨rfl, hk1⟩
        have hr1 := HR3.out.no hk1
        obtain ⟨⟨a0, a1, a2, a3, a4⟩, ⟨b0, b1, b2, b3, b4, b5⟩, ⟨z0, z1, z2, z3, z4, z5⟩, ⟨p0, p1, p2, p3, p4, p5⟩, ⟨q0, q1, q2, q3, q4, q5⟩, l1, l2⟩ := hr1.facts
        rw [HB.out]
        clear hr1
        go_wp2_with fail
        refine bodyPost_ret (v := .agg #[.int .i64 k, .int .i64 c, .int .i64 t, .int .i64 1, .int .i64 v, .int .i64 l]) (by simp [results, Try.results44, go_sem, *]) rfl ⟨rfl, ?_⟩
        repeat (first | (with_reducible exact (HK.out.trans hk1)) | refine kset HB.out ?_ _ (by show B ≤ _; dsimp only; omega) _)
      · rw [if_neg s0]
        by_cases s1 : s = 1
        · subst s1
          rw [if_pos rfl]
          by_cases hv : f = v
          · rw [if_pos hv]
            have hv' : (f == v) = true := by simpa using hv
            clear hv
            have hfl := fld_ask ak aa av
            unfold rowV
            dsimp only
            go_enter Try.func44, Try.ntmps44
            go_wp2_with fail
            rw [HW.out]
            refine (HNX.out _).mono ?_
            rintro e w1 ⟨rfl, hk1⟩
            have hr1 := HR3.out.no hk1
            obtain ⟨⟨a0, a1, a2, a3, a4⟩, ⟨b0, b1, b2, b3, b4, b5⟩, ⟨z0, z1, z2, z3, z4, z5⟩, ⟨p0, p1, p2, p3, p4, p5⟩, ⟨q0, q1, q2, q3, q4, q5⟩, l1, l2⟩ := hr1.facts
            have hcc : (((w1.setCell ⟨B + 1, 5, none⟩ (.int .i64 v)).setCell ⟨B + 1, 3, none⟩ (.int .i64 2)).setCell ⟨B + 1, 3, none⟩ (.int .i64 9)).cell? ⟨B + 1, 3, none⟩ = some (.int .i64 9) := by rw [blk_cell (blk_set (blk_set (blk_set hr1.2.1 5 _) 3 _) 3 _)]; rfl
            rw [HB.out]
            clear hr1
            go_wp2_with fail
            refine bodyPost_ret (v := .agg #[.int .i64 k, .int .i64 c, .int .i64 t, .int .i64 9, .int .i64 f, .int .i64 v]) (by simp [results, Try.results44, go_sem, *]) rfl ⟨rfl, ?_⟩
            repeat (first | (with_reducible exact (HK.out.trans hk1)) | refine kset HB.out ?_ _ (by show B ≤ _; dsimp only; omega) _)
          · rw [if_neg hv]
            have hv' : (f == v) = false := beq_eq_false_iff_ne.2 hv
            have hfl := fld_ask ak aa av
            unfold rowV
            dsimp only
            go_enter Try.func44, Try.ntmps44
            go_wp2_with fail
            rw [HW.out]
            refine (HNX.out _).mono ?_
            rintro e w1 ⟨rfl, hk1⟩
            have hr1 := HR3.out.no hk1
            obtain ⟨⟨a0, a1, a2, a3, a4⟩, ⟨b0, b1, b2, b3, b4, b5⟩, ⟨z0, z1, z2, z3, z4, z5⟩, ⟨p0, p1, p2, p3, p4, p5⟩, ⟨q0, q1, q2, q3, q4, q5⟩, l1, l2⟩ := hr1.facts
            rw [HB.out]
            clear hr1
            go_wp2_with fail
            refine bodyPost_ret (v := .agg #[.int .i64 k, .int .i64 c, .int .i64 t, .int .i64 2, .int .i64 f, .int .i64 v]) (by simp [results, Try.results44, go_sem, *]) rfl ⟨rfl, ?_⟩
            repeat (first | (with_reducible exact (HK.out.trans hk1)) | refine kset HB.out ?_ _ (by show B ≤ _; dsimp only; omega) _)
        · rw [if_neg s1]
          by_cases s2 : s = 2
          · subst s2
            rw [if_pos rfl]
            by_cases hv1 : 1 ≤ v
            · have d1 : decide (1 ≤ v) = true := decide_eq_true hv1
              by_cases hv2 : v ≤ mt
              · rw [if_pos ⟨hv1, hv2⟩]
                have d2 : decide (v ≤ mt) = true := decide_eq_true hv2
                have hy' : IntKind.i64.wrap (9 + v) = 9 + v := (IntWalk.i64_left _).trans (wrap64_id (by omega) (by omega))
                have hfl := fld_ask ak aa av
                unfold rowV
                dsimp only
                go_enter Try.func44, Try.ntmps44
                go_wp2_with fail
                rw [HW.out]
                refine (HNX.out _).mono ?_
                rintro e w1 ⟨rfl, hk1⟩
                have hr1 := HR3.out.no hk1
                obtain ⟨⟨a0, a1, a2, a3, a4⟩, ⟨b0, b1, b2, b3, b4, b5⟩, ⟨z0, z1, z2, z3, z4, z5⟩, ⟨p0, p1, p2, p3, p4, p5⟩, ⟨q0, q1, q2, q3, q4, q5⟩, l1, l2⟩ := hr1.facts
                rw [HB.out]
                clear hr1
                go_wp2_with fail
                refine bodyPost_ret (v := .agg #[.int .i64 k, .int .i64 c, .int .i64 t, .int .i64 (9 + v), .int .i64 f, .int .i64 l]) (by simp [results, Try.results44, go_sem, *]) rfl ⟨rfl, ?_⟩
                repeat (first | (with_reducible exact (HK.out.trans hk1)) | refine kset HB.out ?_ _ (by show B ≤ _; dsimp only; omega) _)
              · rw [if_neg (fun h => hv2 h.2)]
                have d2 : decide (v ≤ mt) = false := decide_eq_false hv2
                have hfl := fld_ask ak aa av
                unfold rowV
                dsimp only
                go_enter Try.func44, Try.ntmps44
                go_wp2_with fail
                rw [HW.out]
                refine (HNX.out _).mono ?_
                rintro e w1 ⟨rfl, hk1⟩
                have hr1 := HR3.out.no hk1
                obtain ⟨⟨a0, a1, a2, a3, a4⟩, ⟨b0, b1, b2, b3, b4, b5⟩, ⟨z0, z1, z2, z3, z4, z5⟩, ⟨p0, p1, p2, p3, p4, p5⟩, ⟨q0, q1, q2, q3, q4, q5⟩, l1, l2⟩ := hr1.facts
                rw [HB.out]
                clear hr1
                go_wp2_with fail
                refine bodyPost_ret (v := .agg #[.int .i64 k, .int .i64 c, .int .i64 t, .int .i64 8, .int .i64 f, .int .i64 l]) (by simp [results, Try.results44, go_sem, *]) rfl ⟨rfl, ?_⟩
                repeat (first | (with_reducible exact (HK.out.trans hk1)) | refine kset HB.out ?_ _ (by show B ≤ _; dsimp only; omega) _)
            · rw [if_neg (fun h => hv1 h.1)]
              have d1 : decide (1 ≤ v) = false := decide_eq_false hv1
              have hfl := fld_ask ak aa av
              unfold rowV
              dsimp only
              go_enter Try.func44, Try.ntmps44
              go_wp2_with fail
              rw [HW.out]
              refine (HNX.out _).mono ?_
              rintro e w1 ⟨rfl, hk1⟩
              have hr1 := HR3.out.no hk1
              obtain ⟨⟨a0, a1, a2, a3, a4⟩, ⟨b0, b1, b2, b3, b4, b5⟩, ⟨z0, z1, z2, z3, z4, z5⟩, ⟨p0, p1, p2, p3, p4, p5⟩, ⟨q0, q1, q2, q3, q4, q5⟩, l1, l2⟩ := hr1.facts
              rw [HB.out]
              clear hr1
              go_wp2_with fail
              refine bodyPost_ret (v := .agg #[.int .i64 k, .int .i64 c, .int .i64 t, .int .i64 8, .int .i64 f, .int .i64 l]) (by simp [results, Try.results44, go_sem, *]) rfl ⟨rfl, ?_⟩
              repeat (first | (with_reducible exact (HK.out.trans hk1)) | refine kset HB.out ?_ _ (by show B ≤ _; dsimp only; omega) _)
          · rw [if_neg s2]
            by_cases s8 : s = 8
            · subst s8
              rw [if_pos rfl]
              by_cases k3 : k = 3
              · subst k3
                rw [if_pos rfl]
                obtain ⟨y, hy⟩ : ∃ y, wrap64 (f + 1) = y := ⟨_, rfl⟩
                have hy' : IntKind.i64.wrap (f + 1) = y := (IntWalk.i64_left _).trans hy
                rw [hy]
                clear hy
                by_cases hyl : y = l
                · rw [if_pos hyl]
                  have hyl' : (y == l) = true := by simpa using hyl
                  clear s0 s1 s2
                  subst hyl
                  have hfl := fld_ask ak aa av
                  unfold rowV
                  dsimp only
                  go_enter Try.func44, Try.ntmps44
                  go_wp2_with fail
                  rw [HW.out]
                  refine (HNX.out _).mono ?_
                  rintro e w1 ⟨rfl, hk1⟩
                  have hr1 := HR3.out.no hk1
                  obtain ⟨⟨a0, a1, a2, a3, a4⟩, ⟨b0, b1, b2, b3, b4, b5⟩, ⟨z0, z1, z2, z3, z4, z5⟩, ⟨p0, p1, p2, p3, p4, p5⟩, ⟨q0, q1, q2, q3, q4, q5⟩, l1, l2⟩ := hr1.facts
                  rw [HB.out]
                  clear hr1
                  go_wp2_with fail
                  refine bodyPost_ret (v := .agg #[.int .i64 3, .int .i64 c, .int .i64 t, .int .i64 9, .int .i64 y, .int .i64 y]) (by simp [results, Try.results44, go_sem, *]) rfl ⟨rfl, ?_⟩
                  repeat (first | (with_reducible exact (HK.out.trans hk1)) | refine kset HB.out ?_ _ (by show B ≤ _; dsimp only; omega) _)
                · rw [if_neg hyl]
                  have hyl' : (y == l) = false := beq_eq_false_iff_ne.2 hyl
                  clear s0 s1 s2
                  have hfl := fld_ask ak aa av
                  unfold rowV
                  dsimp only
                  go_enter Try.func44, Try.ntmps44
                  go_wp2_with fail
                  rw [HW.out]
                  refine (HNX.out _).mono ?_
                  rintro e w1 ⟨rfl, hk1⟩
                  have hr1 := HR3.out.no hk1
                  obtain ⟨⟨a0, a1, a2, a3, a4⟩, ⟨b0, b1, b2, b3, b4, b5⟩, ⟨z0, z1, z2, z3, z4, z5⟩, ⟨p0, p1, p2, p3, p4, p5⟩, ⟨q0, q1, q2, q3, q4, q5⟩, l1, l2⟩ := hr1.facts
                  rw [HB.out]
                  clear hr1
                  go_wp2_with fail
                  refine bodyPost_ret (v := .agg #[.int .i64 3, .int .i64 c, .int .i64 t, .int .i64 2, .int .i64 y, .int .i64 l]) (by simp [results, Try.results44, go_sem, *]) rfl ⟨rfl, ?_⟩
                  repeat (first | (with_reducible exact (HK.out.trans hk1)) | refine kset HB.out ?_ _ (by show B ≤ _; dsimp only; omega) _)
              · rw [if_neg k3]
                have k3' : (k == 3) = false := beq_eq_false_iff_ne.2 k3
                clear s0 s1 s2
                have hfl := fld_ask ak aa av
                unfold rowV
                dsimp only
                go_enter Try.func44, Try.ntmps44
                go_wp2_with fail
                rw [HW.out]
                refine (HNX.out _).mono ?_
                rintro e w1 ⟨rfl, hk1⟩
                have hr1 := HR3.out.no hk1
                obtain ⟨⟨a0, a1, a2, a3, a4⟩, ⟨b0, b1, b2, b3, b4, b5⟩, ⟨z0, z1, z2, z3, z4, z5⟩, ⟨p0, p1, p2, p3, p4, p5⟩, ⟨q0, q1, q2, q3, q4, q5⟩, l1, l2⟩ := hr1.facts
                rw [HB.out]
                clear hr1
                go_wp2_with fail
                refine bodyPost_ret (v := .agg #[.int .i64 k, .int .i64 c, .int .i64 t, .int .i64 9, .int .i64 f, .int .i64 l]) (by simp [results, Try.results44, go_sem, *]) rfl ⟨rfl, ?_⟩
                repeat (first | (with_reducible exact (HK.out.trans hk1)) | refine kset HB.out ?_ _ (by show B ≤ _; dsimp only; omega) _)
            · rw [if_neg s8]
              have s0' : (s == 0) = false := beq_eq_false_iff_ne.2 s0
              have s1' : (s == 1) = false := beq_eq_false_iff_ne.2 s1
              have s2' : (s == 2) = false := beq_eq_false_iff_ne.2 s2
              have s8' : (s == 8) = false := beq_eq_false_iff_ne.2 s8
              clear s0 s1 s2 s8
              have hfl := fld_ask ak aa av
              unfold rowV
              dsimp only
              go_enter Try.func44, Try.ntmps44
              go_wp2_with fail
              rw [HW.out]
              refine (HNX.out _).mono ?_
              rintro e w1 ⟨rfl, hk1⟩
              have hr1 := HR3.out.no hk1
              obtain ⟨⟨a0, a1, a2, a3, a4⟩, ⟨b0, b1, b2, b3, b4, b5⟩, ⟨z0, z1, z2, z3, z4, z5⟩, ⟨p0, p1, p2, p3, p4, p5⟩, ⟨q0, q1, q2, q3, q4, q5⟩, l1, l2⟩ := hr1.facts
              rw [HB.out]
              clear hr1
              go_wp2_with fail
              refine bodyPost_ret (v := .agg #[.int .i64 k, .int .i64 c, .int .i64 t, .int .i64 8, .int .i64 f, .int .i64 l]) (by simp [results, Try.results44, go_sem, *]) rfl ⟨rfl, ?_⟩
              repeat (first | (with_reducible exact (HK.out.trans hk1)) | refine kset HB.out ?_ _ (by show B ≤ _; dsimp only; omega) _)
end Go.Proofs.Ytodaiogefgdcpaa
