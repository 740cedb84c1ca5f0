/- vclock.Step, Start, and the document's own: each with what it computes. -/
import Derived.Test.YtodaiogefgdcpaaClock
namespace Go.Proofs.Ytodaiogefgdcpaa
open Go.RowKit
/-- three boxes: a map, a bump, what is handed back -/
def B3 (T : TypeId) (B : Nat) (ms ml mt mc md k s x y : Int) (w : World) : Prop := MapAt w B ms ml mt mc md ∧ BumpAt w T (B + 1) k s x y ∧ BumpAt w T (B + 2) 0 0 0 0
theorem B3.own {T : TypeId} {B a : Nat} {v : Value} {ms ml mt mc md k s x y : Int} {w w' : World} (h : B3 T B ms ml mt mc md k s x y w) (kk : Keeps (own2m a v) w w') (ha : a < B) (hv : ∀ g, v.ownBlock = some g → g < B) : B3 T B ms ml mt mc md k s x y w' :=
  ⟨h.1.keep kk (not_own (by omega) (fun e => by have := hv _ e; omega)), h.2.1.keep kk (not_own (by omega) (fun e => by have := hv _ e; omega)), h.2.2.keep kk (not_own (by omega) (fun e => by have := hv _ e; omega))⟩
theorem B3.no {T : TypeId} {B : Nat} {ms ml mt mc md k s x y : Int} {w w' : World} (h : B3 T B ms ml mt mc md k s x y w) (kk : Keeps NoS w w') : B3 T B ms ml mt mc md k s x y w' := ⟨h.1.keep kk (fun f => f), h.2.1.keep kk (fun f => f), h.2.2.keep kk (fun f => f)⟩
theorem B3.drew {T : TypeId} {B : Nat} {ms ml mt mc md k s x y : Int} {w : World} (h : B3 T B ms ml mt mc md k s x y w) : B3 T B ms ml mt mc md k s x y w.drew := h
theorem B3.facts {T : TypeId} {B : Nat} {ms ml mt mc md k s x y : Int} {w : World} (h : B3 T B ms ml mt mc md k s x y w) :
    (w.cell? ⟨B, 0, none⟩ = some (.int .i64 ms) ∧ w.cell? ⟨B, 1, none⟩ = some (.int .i64 ml) ∧ w.cell? ⟨B, 2, none⟩ = some (.int .i64 mt) ∧ w.cell? ⟨B, 3, none⟩ = some (.int .i64 mc) ∧ w.cell? ⟨B, 4, none⟩ = some (.int .i64 md)) ∧ (w.cell? ⟨(B + 1), 0, none⟩ = some (.int .i64 k) ∧ w.cell? ⟨(B + 1), 1, none⟩ = some (.int .i64 s) ∧ w.cell? ⟨(B + 1), 2, none⟩ = some (.int .i64 x) ∧ w.cell? ⟨(B + 1), 3, none⟩ = some (.int .i64 y)) ∧ (w.cell? ⟨(B + 2), 0, none⟩ = some (.int .i64 0) ∧ w.cell? ⟨(B + 2), 1, none⟩ = some (.int .i64 0) ∧ w.cell? ⟨(B + 2), 2, none⟩ = some (.int .i64 0) ∧ w.cell? ⟨(B + 2), 3, none⟩ = some (.int .i64 0)) ∧
    (w.frozen? ⟨B + 1, 0, none⟩ = false ∧ w.frozen? ⟨B + 1, 1, none⟩ = false ∧ w.frozen? ⟨B + 1, 2, none⟩ = false ∧ w.frozen? ⟨B + 1, 3, none⟩ = false) ∧
    (w.frozen? ⟨B + 2, 0, none⟩ = false ∧ w.frozen? ⟨B + 2, 1, none⟩ = false ∧ w.frozen? ⟨B + 2, 2, none⟩ = false ∧ w.frozen? ⟨B + 2, 3, none⟩ = false) ∧ B + 1 < w.heap.size ∧ B + 2 < w.heap.size := by
  obtain ⟨⟨c0, c1, c2, c3⟩, f0, f1, f2, f3, fz⟩ := h.2.1.cells
  obtain ⟨⟨r0, r1, r2, r3⟩, g0, g1, g2, g3, gz⟩ := h.2.2.cells
  exact ⟨h.1, ⟨c0, c1, c2, c3⟩, ⟨r0, r1, r2, r3⟩, ⟨f0, f1, f2, f3⟩, ⟨g0, g1, g2, g3⟩, fz, gz⟩
theorem B3.two {T : TypeId} {B : Nat} {ms ml mt mc md k s x y : Int} {w : World} (h : B3 T B ms ml mt mc md k s x y w) : (w.cell? ⟨B, 0, none⟩ = some (.int .i64 ms) ∧ w.cell? ⟨B, 1, none⟩ = some (.int .i64 ml) ∧ w.cell? ⟨B, 2, none⟩ = some (.int .i64 mt) ∧ w.cell? ⟨B, 3, none⟩ = some (.int .i64 mc) ∧ w.cell? ⟨B, 4, none⟩ = some (.int .i64 md)) ∧ (w.cell? ⟨(B + 1), 0, none⟩ = some (.int .i64 k) ∧ w.cell? ⟨(B + 1), 1, none⟩ = some (.int .i64 s) ∧ w.cell? ⟨(B + 1), 2, none⟩ = some (.int .i64 x) ∧ w.cell? ⟨(B + 1), 3, none⟩ = some (.int .i64 y)) := ⟨h.facts.1, h.facts.2.1⟩
theorem b3_new (w : World) (ms ml mt mc md k s x y : Int) (U T : TypeId) : B3 T w.heap.size ms ml mt mc md k s x y (((w.alloc (.cells #[.int .i64 ms, .int .i64 ml, .int .i64 mt, .int .i64 mc, .int .i64 md] U)).alloc (.cells #[.int .i64 k, .int .i64 s, .int .i64 x, .int .i64 y] T)).alloc (.cells #[.int .i64 0, .int .i64 0, .int .i64 0, .int .i64 0] T)) := by
  refine ⟨((mapAt_new w ms ml mt mc md U).keep ((Keeps.refl NoS _).alloc _) (fun f => f)).keep ((Keeps.refl NoS _).alloc _) (fun f => f), ?_, ?_⟩
  · have := (bumpAt_new (w.alloc (.cells #[.int .i64 ms, .int .i64 ml, .int .i64 mt, .int .i64 mc, .int .i64 md] U)) T k s x y).keep ((Keeps.refl NoS _).alloc (.cells #[.int .i64 0, .int .i64 0, .int .i64 0, .int .i64 0] T)) (fun f => f)
    simpa using this
  · have := bumpAt_new ((w.alloc (.cells #[.int .i64 ms, .int .i64 ml, .int .i64 mt, .int .i64 mc, .int .i64 md] U)).alloc (.cells #[.int .i64 k, .int .i64 s, .int .i64 x, .int .i64 y] T)) T 0 0 0 0
    simpa using this
set_option maxHeartbeats 8000000 in
set_option maxRecDepth 100000 in
theorem step_any (ms ml mt mc md k s x y : Int) (a : Nat) (v : Value) (M : MemS) (w : World) (hA : MemAt w a v M) : Calls Try.prog 38 #[.agg #[.int .i64 ms, .int .i64 ml, .int .i64 mt, .int .i64 mc, .int .i64 md], .pointer (some ⟨a, 0, none⟩), .agg #[.int .i64 k, .int .i64 s, .int .i64 x, .int .i64 y]] w fun e w' => e = .returned (bumpV (stepB ⟨ms, ml, mt, mc, md⟩ M ⟨k, s, x, y⟩).2) ∧ MemAt w' a v (stepB ⟨ms, ml, mt, mc, md⟩ M ⟨k, s, x, y⟩).1 ∧ Keeps (own2m a v) w w' := by
  have hbx := b3_new w ms ml mt mc md k s x y 25 65
  have hk : Keeps NoS w (((w.alloc (.cells #[.int .i64 ms, .int .i64 ml, .int .i64 mt, .int .i64 mc, .int .i64 md] 25)).alloc (.cells #[.int .i64 k, .int .i64 s, .int .i64 x, .int .i64 y] 65)).alloc (.cells #[.int .i64 0, .int .i64 0, .int .i64 0, .int .i64 0] 65)) := (((Keeps.refl NoS w).alloc _).alloc _).alloc _
  have ha := blk_lt hA.hd
  have hv : ∀ g, v.ownBlock = some g → g < w.heap.size := fun g hg => hA.own_lt hg
  have hA2 := hA.keep hk (fun f => f) (fun _ _ f => f)
  obtain ⟨B, hB⟩ : ∃ B, w.heap.size = B := ⟨_, rfl⟩
  rw [hB] at hbx hv ha
  have HB := Lib.hid hB; have HA2 := Lib.hid hA2; have HK := Lib.hid hk; have HV := Lib.hid hv; have HBX := Lib.hid hbx
  clear hbx hk hv hA2 hA hB
  unfold stepB
  obtain ⟨sz, hsz⟩ : ∃ sz, sizeP ⟨ms, ml, mt, mc, md⟩ = sz := ⟨_, rfl⟩
  obtain ⟨my, hmy⟩ : ∃ my, mayB ⟨ms, ml, mt, mc, md⟩ = my := ⟨_, rfl⟩
  have hok : okB ⟨ms, ml, mt, mc, md⟩ M.L.length s = (my && decide (sz ≤ (M.L.length : Int)) && decide (0 ≤ s) && decide (s ≤ 1)) := by unfold okB; rw [hsz, hmy]
  have hln := @ok_len ⟨ms, ml, mt, mc, md⟩ M.L.length s
  have HSZ := Lib.hid hsz; have HMY := Lib.hid hmy; have HLN := Lib.hid hln
  dsimp only
  rw [hok]
  clear hsz hmy hln
  cases my with
  | false =>
    clear hok
    rw [Bool.false_and, Bool.false_and, Bool.false_and, if_neg (by decide)]
    unfold bumpV
    dsimp only
    go_enter Try.func38, Try.ntmps38
    go_wp2_with fail
    rw [HB.out]
    have hT0 := HBX.out.drew.two
    have hA3 := HA2.out.drew
    refine wp_region_held_drew (S := (fun w' => (w'.cell? ⟨B, 0, none⟩ = some (.int .i64 ms) ∧ w'.cell? ⟨B, 1, none⟩ = some (.int .i64 ml) ∧ w'.cell? ⟨B, 2, none⟩ = some (.int .i64 mt) ∧ w'.cell? ⟨B, 3, none⟩ = some (.int .i64 mc) ∧ w'.cell? ⟨B, 4, none⟩ = some (.int .i64 md)) ∧ (w'.cell? ⟨(B + 1), 0, none⟩ = some (.int .i64 k) ∧ w'.cell? ⟨(B + 1), 1, none⟩ = some (.int .i64 s) ∧ w'.cell? ⟨(B + 1), 2, none⟩ = some (.int .i64 x) ∧ w'.cell? ⟨(B + 1), 3, none⟩ = some (.int .i64 y)))) (by kernel_rfl) (hT0) (fun hHeld => ?_)
    refine wpAnyH_take (i := 0) (v := ?_) (by simp only [List.getElem?_toArray, List.getElem?_cons_succ, List.getElem?_cons_zero]; rfl) (by kernel_rfl) (by kernel_rfl) (by kernel_rfl) (by exact fun _ _ _ h => h) (Or.inl ⟨by rfl, ?_⟩) hHeld ?_
    rotate_left
    · intro w hSw; (try dsimp only at hSw); go_simp; (try with_reducible rfl)
    try simp only [Act.put, List.setIfInBounds_toArray, List.set_cons_zero, List.set_cons_succ]
    refine wpAnyH_ready (rs := [1]) (by kernel_rfl) (by simp) ?_
    refine AllReadyH.cons (by simp only [List.getElem?_toArray, List.getElem?_cons_succ, List.getElem?_cons_zero]; rfl) (fun kC hkC => ?_) AllReadyH.nil
    go_simp
    refine (may_any ⟨ms, ml, mt, mc, md⟩ _).mono ?_; rw [HMY.out]; rintro e w1 ⟨rfl, hk1⟩; have hb1 := HBX.out.drew.no hk1; have hT1 := hb1.two; have hA4 := hA3.keep hk1 (fun f => f) (fun _ _ f => f); have HK1 := Lib.hid (HK.out.drew.trans hk1)
    (try go_wp2_with fail)
    refine hkC.out _ _ (hT1) (fun hHeld => ?_)
    clear hkC kC
    try simp only [Act.put, List.setIfInBounds_toArray, List.set_cons_zero, List.set_cons_succ]
    refine wpAnyH_take (i := 2) (v := ?_) (by simp only [List.getElem?_toArray, List.getElem?_cons_succ, List.getElem?_cons_zero]; rfl) (by kernel_rfl) (by kernel_rfl) (by kernel_rfl) (by exact fun _ _ _ h => h) (Or.inl ⟨by rfl, ?_⟩) hHeld ?_
    rotate_left
    · intro w hSw; (try dsimp only at hSw); go_simp; (try with_reducible rfl)
    try simp only [Act.put, List.setIfInBounds_toArray, List.set_cons_zero, List.set_cons_succ]
    refine wpAnyH_take (i := 3) (v := ?_) (by simp only [List.getElem?_toArray, List.getElem?_cons_succ, List.getElem?_cons_zero]; rfl) (by kernel_rfl) (by kernel_rfl) (by kernel_rfl) (by exact fun _ _ _ h => h) (Or.inl ⟨by rfl, ?_⟩) hHeld ?_
    rotate_left
    · intro w hSw; (try dsimp only at hSw); go_simp; (try with_reducible rfl)
    try simp only [Act.put, List.setIfInBounds_toArray, List.set_cons_zero, List.set_cons_succ]
    refine wpAnyH_take (i := 4) (v := undef) (by simp only [List.getElem?_toArray, List.getElem?_cons_succ, List.getElem?_cons_zero]; rfl) (by kernel_rfl) (by kernel_rfl) (by kernel_rfl) (by exact fun _ _ _ h => h) (Or.inr ⟨by rfl, rfl⟩) hHeld ?_
    try simp only [Act.put, List.setIfInBounds_toArray, List.set_cons_zero, List.set_cons_succ]
    refine wpAnyH_take (i := 5) (v := undef) (by simp only [List.getElem?_toArray, List.getElem?_cons_succ, List.getElem?_cons_zero]; rfl) (by kernel_rfl) (by kernel_rfl) (by kernel_rfl) (by exact fun _ _ _ h => h) (Or.inr ⟨by rfl, rfl⟩) hHeld ?_
    try simp only [Act.put, List.setIfInBounds_toArray, List.set_cons_zero, List.set_cons_succ]
    refine wpAnyH_take (i := 6) (v := undef) (by simp only [List.getElem?_toArray, List.getElem?_cons_succ, List.getElem?_cons_zero]; rfl) (by kernel_rfl) (by kernel_rfl) (by kernel_rfl) (by exact fun _ _ _ h => h) (Or.inr ⟨by rfl, rfl⟩) hHeld ?_
    try simp only [Act.put, List.setIfInBounds_toArray, List.set_cons_zero, List.set_cons_succ]
    refine wpAnyH_take (i := 7) (v := undef) (by simp only [List.getElem?_toArray, List.getElem?_cons_succ, List.getElem?_cons_zero]; rfl) (by kernel_rfl) (by kernel_rfl) (by kernel_rfl) (by exact fun _ _ _ h => h) (Or.inr ⟨by rfl, rfl⟩) hHeld ?_
    try simp only [Act.put, List.setIfInBounds_toArray, List.set_cons_zero, List.set_cons_succ]
    refine wpAnyH_take (i := 8) (v := undef) (by simp only [List.getElem?_toArray, List.getElem?_cons_succ, List.getElem?_cons_zero]; rfl) (by kernel_rfl) (by kernel_rfl) (by kernel_rfl) (by exact fun _ _ _ h => h) (Or.inr ⟨by rfl, rfl⟩) hHeld ?_
    try simp only [Act.put, List.setIfInBounds_toArray, List.set_cons_zero, List.set_cons_succ]
    refine wpAnyH_take (i := 9) (v := ?_) (by simp only [List.getElem?_toArray, List.getElem?_cons_succ, List.getElem?_cons_zero]; rfl) (by kernel_rfl) (by kernel_rfl) (by kernel_rfl) (by exact fun _ _ _ h => h) (Or.inl ⟨by rfl, ?_⟩) hHeld ?_
    rotate_left
    · intro w hSw; (try dsimp only at hSw); go_simp; (try with_reducible rfl)
    try simp only [Act.put, List.setIfInBounds_toArray, List.set_cons_zero, List.set_cons_succ]
    refine wpAnyH_take (i := 10) (v := ?_) (by simp only [List.getElem?_toArray, List.getElem?_cons_succ, List.getElem?_cons_zero]; rfl) (by kernel_rfl) (by kernel_rfl) (by kernel_rfl) (by exact fun _ _ _ h => h) (Or.inl ⟨by rfl, ?_⟩) hHeld ?_
    rotate_left
    · intro w hSw; (try dsimp only at hSw); go_simp; (try with_reducible rfl)
    try simp only [Act.put, List.setIfInBounds_toArray, List.set_cons_zero, List.set_cons_succ]
    refine wpAnyH_take (i := 11) (v := undef) (by simp only [List.getElem?_toArray, List.getElem?_cons_succ, List.getElem?_cons_zero]; rfl) (by kernel_rfl) (by kernel_rfl) (by kernel_rfl) (by exact fun _ _ _ h => h) (Or.inr ⟨by rfl, rfl⟩) hHeld ?_
    try simp only [Act.put, List.setIfInBounds_toArray, List.set_cons_zero, List.set_cons_succ]
    refine wpAnyH_take (i := 12) (v := undef) (by simp only [List.getElem?_toArray, List.getElem?_cons_succ, List.getElem?_cons_zero]; rfl) (by kernel_rfl) (by kernel_rfl) (by kernel_rfl) (by exact fun _ _ _ h => h) (Or.inr ⟨by rfl, rfl⟩) hHeld ?_
    try simp only [Act.put, List.setIfInBounds_toArray, List.set_cons_zero, List.set_cons_succ]
    refine wpAnyH_take (i := 13) (v := undef) (by simp only [List.getElem?_toArray, List.getElem?_cons_succ, List.getElem?_cons_zero]; rfl) (by kernel_rfl) (by kernel_rfl) (by kernel_rfl) (by exact fun _ _ _ h => h) (Or.inr ⟨by rfl, rfl⟩) hHeld ?_
    try simp only [Act.put, List.setIfInBounds_toArray, List.set_cons_zero, List.set_cons_succ]
    refine wpAnyH_take (i := 14) (v := ?_) (by simp only [List.getElem?_toArray, List.getElem?_cons_succ, List.getElem?_cons_zero]; rfl) (by kernel_rfl) (by kernel_rfl) (by kernel_rfl) (by exact fun _ _ _ h => h) (Or.inl ⟨by rfl, ?_⟩) hHeld ?_
    rotate_left
    · intro w hSw; (try dsimp only at hSw); go_simp; (try with_reducible rfl)
    try simp only [Act.put, List.setIfInBounds_toArray, List.set_cons_zero, List.set_cons_succ]
    refine wpAnyH_take (i := 15) (v := ?_) (by simp only [List.getElem?_toArray, List.getElem?_cons_succ, List.getElem?_cons_zero]; rfl) (by kernel_rfl) (by kernel_rfl) (by kernel_rfl) (by exact fun _ _ _ h => h) (Or.inl ⟨by rfl, ?_⟩) hHeld ?_
    rotate_left
    · intro w hSw; (try dsimp only at hSw); go_simp; (try with_reducible rfl)
    try simp only [Act.put, List.setIfInBounds_toArray, List.set_cons_zero, List.set_cons_succ]
    refine wpAnyH_take (i := 16) (v := undef) (by simp only [List.getElem?_toArray, List.getElem?_cons_succ, List.getElem?_cons_zero]; rfl) (by kernel_rfl) (by kernel_rfl) (by kernel_rfl) (by exact fun _ _ _ h => h) (Or.inr ⟨by rfl, rfl⟩) hHeld ?_
    try simp only [Act.put, List.setIfInBounds_toArray, List.set_cons_zero, List.set_cons_succ]
    refine wpAnyH_take (i := 17) (v := undef) (by simp only [List.getElem?_toArray, List.getElem?_cons_succ, List.getElem?_cons_zero]; rfl) (by kernel_rfl) (by kernel_rfl) (by kernel_rfl) (by exact fun _ _ _ h => h) (Or.inr ⟨by rfl, rfl⟩) hHeld ?_
    try simp only [Act.put, List.setIfInBounds_toArray, List.set_cons_zero, List.set_cons_succ]
    refine wpAnyH_take (i := 18) (v := undef) (by simp only [List.getElem?_toArray, List.getElem?_cons_succ, List.getElem?_cons_zero]; rfl) (by kernel_rfl) (by kernel_rfl) (by kernel_rfl) (by exact fun _ _ _ h => h) (Or.inr ⟨by rfl, rfl⟩) hHeld ?_
    try simp only [Act.put, List.setIfInBounds_toArray, List.set_cons_zero, List.set_cons_succ]
    refine wpAnyH_take (i := 19) (v := ?_) (by simp only [List.getElem?_toArray, List.getElem?_cons_succ, List.getElem?_cons_zero]; rfl) (by kernel_rfl) (by kernel_rfl) (by kernel_rfl) (by exact fun _ _ _ h => h) (Or.inl ⟨by rfl, ?_⟩) hHeld ?_
    rotate_left
    · intro w hSw; (try dsimp only at hSw); go_simp; (try with_reducible rfl)
    try simp only [Act.put, List.setIfInBounds_toArray, List.set_cons_zero, List.set_cons_succ]
    refine wpAnyH_done (by kernel_rfl) ?_ _
    obtain ⟨⟨m0, m1, m2, m3, m4⟩, ⟨c0, c1, c2, c3⟩, ⟨r0, r1, r2, r3⟩, ⟨f0, f1, f2, f3⟩, ⟨g0, g1, g2, g3⟩, z1, z2⟩ := hb1.facts
    have HBL := Lib.hid hb1
    clear hT0 hT1 hb1
    go_wp2_with fail
    refine bodyPost_ret (v := .agg #[.int .i64 k, .int .i64 s, .int .i64 x, .int .i64 y]) (by simp [results, Try.results38, go_sem, *]) rfl ⟨rfl, ?_, ?_⟩
    · repeat (first | (with_reducible exact hA4) | refine MemT.set (B := B) ?_ ha HV.out _ (by show B ≤ _; dsimp only; omega) _)
    · repeat (first | (with_reducible exact (HK1.out.no)) | refine kset HB.out ?_ _ (by show B ≤ _; dsimp only; omega) _)
  | true =>
    by_cases d1 : sz ≤ (M.L.length : Int)
    case neg =>
      rw [decide_eq_false d1, Bool.and_false, Bool.false_and, Bool.false_and, if_neg (by decide)]
      have d1' : decide ((M.L.length : Int) < sz) = true := decide_eq_true (by omega)
      clear hok d1
      unfold bumpV
      dsimp only
      go_enter Try.func38, Try.ntmps38
      go_wp2_with fail
      rw [HB.out]
      have hT0 := HBX.out.drew.two
      have hA3 := HA2.out.drew
      refine wp_region_held_drew (S := (fun w' => (w'.cell? ⟨B, 0, none⟩ = some (.int .i64 ms) ∧ w'.cell? ⟨B, 1, none⟩ = some (.int .i64 ml) ∧ w'.cell? ⟨B, 2, none⟩ = some (.int .i64 mt) ∧ w'.cell? ⟨B, 3, none⟩ = some (.int .i64 mc) ∧ w'.cell? ⟨B, 4, none⟩ = some (.int .i64 md)) ∧ (w'.cell? ⟨(B + 1), 0, none⟩ = some (.int .i64 k) ∧ w'.cell? ⟨(B + 1), 1, none⟩ = some (.int .i64 s) ∧ w'.cell? ⟨(B + 1), 2, none⟩ = some (.int .i64 x) ∧ w'.cell? ⟨(B + 1), 3, none⟩ = some (.int .i64 y)))) (by kernel_rfl) (hT0) (fun hHeld => ?_)
      refine wpAnyH_take (i := 0) (v := ?_) (by simp only [List.getElem?_toArray, List.getElem?_cons_succ, List.getElem?_cons_zero]; rfl) (by kernel_rfl) (by kernel_rfl) (by kernel_rfl) (by exact fun _ _ _ h => h) (Or.inl ⟨by rfl, ?_⟩) hHeld ?_
      rotate_left
      · intro w hSw; (try dsimp only at hSw); go_simp; (try with_reducible rfl)
      try simp only [Act.put, List.setIfInBounds_toArray, List.set_cons_zero, List.set_cons_succ]
      refine wpAnyH_ready (rs := [1]) (by kernel_rfl) (by simp) ?_
      refine AllReadyH.cons (by simp only [List.getElem?_toArray, List.getElem?_cons_succ, List.getElem?_cons_zero]; rfl) (fun kC hkC => ?_) AllReadyH.nil
      go_simp
      refine (may_any ⟨ms, ml, mt, mc, md⟩ _).mono ?_; rw [HMY.out]; rintro e w1 ⟨rfl, hk1⟩; have hb1 := HBX.out.drew.no hk1; have hT1 := hb1.two; have hA4 := hA3.keep hk1 (fun f => f) (fun _ _ f => f); have HK1 := Lib.hid (HK.out.drew.trans hk1)
      (try go_wp2_with fail)
      refine hkC.out _ _ (hT1) (fun hHeld => ?_)
      clear hkC kC
      try simp only [Act.put, List.setIfInBounds_toArray, List.set_cons_zero, List.set_cons_succ]
      refine wpAnyH_take (i := 2) (v := ?_) (by simp only [List.getElem?_toArray, List.getElem?_cons_succ, List.getElem?_cons_zero]; rfl) (by kernel_rfl) (by kernel_rfl) (by kernel_rfl) (by exact fun _ _ _ h => h) (Or.inl ⟨by rfl, ?_⟩) hHeld ?_
      rotate_left
      · intro w hSw; (try dsimp only at hSw); go_simp; (try with_reducible rfl)
      try simp only [Act.put, List.setIfInBounds_toArray, List.set_cons_zero, List.set_cons_succ]
      refine wpAnyH_take (i := 3) (v := ?_) (by simp only [List.getElem?_toArray, List.getElem?_cons_succ, List.getElem?_cons_zero]; rfl) (by kernel_rfl) (by kernel_rfl) (by kernel_rfl) (by exact fun _ _ _ h => h) (Or.inl ⟨by rfl, ?_⟩) hHeld ?_
      rotate_left
      · intro w hSw; (try dsimp only at hSw); go_simp; (try with_reducible rfl)
      try simp only [Act.put, List.setIfInBounds_toArray, List.set_cons_zero, List.set_cons_succ]
      refine wpAnyH_take (i := 4) (v := ?_) (by simp only [List.getElem?_toArray, List.getElem?_cons_succ, List.getElem?_cons_zero]; rfl) (by kernel_rfl) (by kernel_rfl) (by kernel_rfl) (by exact fun _ _ _ h => h) (Or.inl ⟨by rfl, ?_⟩) hHeld ?_
      rotate_left
      · intro w hSw; (try dsimp only at hSw); go_simp; (try with_reducible rfl)
      try simp only [Act.put, List.setIfInBounds_toArray, List.set_cons_zero, List.set_cons_succ]
      refine wpAnyH_take (i := 6) (v := ?_) (by simp only [List.getElem?_toArray, List.getElem?_cons_succ, List.getElem?_cons_zero]; rfl) (by kernel_rfl) (by kernel_rfl) (by kernel_rfl) (by exact fun _ _ _ h => h) (Or.inl ⟨by rfl, ?_⟩) hHeld ?_
      rotate_left
      · intro w hSw; (try dsimp only at hSw); go_simp; (try with_reducible rfl)
      try simp only [Act.put, List.setIfInBounds_toArray, List.set_cons_zero, List.set_cons_succ]
      refine wpAnyH_ready (rs := [5]) (by kernel_rfl) (by simp) ?_
      refine AllReadyH.cons (by simp only [List.getElem?_toArray, List.getElem?_cons_succ, List.getElem?_cons_zero]; rfl) (fun kC hkC => ?_) AllReadyH.nil
      go_simp
      refine (mlen_any a v M _ hA4).mono ?_; rintro e w2 ⟨rfl, rfl⟩
      (try go_wp2_with fail)
      refine hkC.out _ _ (hT1) (fun hHeld => ?_)
      clear hkC kC
      try simp only [Act.put, List.setIfInBounds_toArray, List.set_cons_zero, List.set_cons_succ]
      refine wpAnyH_ready (rs := [7]) (by kernel_rfl) (by simp) ?_
      refine AllReadyH.cons (by simp only [List.getElem?_toArray, List.getElem?_cons_succ, List.getElem?_cons_zero]; rfl) (fun kC hkC => ?_) AllReadyH.nil
      go_simp
      refine (size_lit ms ml mt mc md sz HSZ.out _).mono ?_; rintro e w3 ⟨rfl, hk3⟩; have hb3 := hb1.no hk3; have hT3 := hb3.two; have hA5 := hA4.keep hk3 (fun f => f) (fun _ _ f => f); have HK3 := Lib.hid (HK1.out.trans hk3)
      (try go_wp2_with fail)
      refine hkC.out _ _ (hT3) (fun hHeld => ?_)
      clear hkC kC
      try simp only [Act.put, List.setIfInBounds_toArray, List.set_cons_zero, List.set_cons_succ]
      refine wpAnyH_take (i := 8) (v := ?_) (by simp only [List.getElem?_toArray, List.getElem?_cons_succ, List.getElem?_cons_zero]; rfl) (by kernel_rfl) (by kernel_rfl) (by kernel_rfl) (by exact fun _ _ _ h => h) (Or.inl ⟨by rfl, ?_⟩) hHeld ?_
      rotate_left
      · intro w hSw; (try dsimp only at hSw); go_simp; (try with_reducible rfl)
      try simp only [Act.put, List.setIfInBounds_toArray, List.set_cons_zero, List.set_cons_succ]
      refine wpAnyH_take (i := 9) (v := ?_) (by simp only [List.getElem?_toArray, List.getElem?_cons_succ, List.getElem?_cons_zero]; rfl) (by kernel_rfl) (by kernel_rfl) (by kernel_rfl) (by exact fun _ _ _ h => h) (Or.inl ⟨by rfl, ?_⟩) hHeld ?_
      rotate_left
      · intro w hSw; (try dsimp only at hSw); go_simp; (try with_reducible rfl)
      try simp only [Act.put, List.setIfInBounds_toArray, List.set_cons_zero, List.set_cons_succ]
      refine wpAnyH_take (i := 10) (v := ?_) (by simp only [List.getElem?_toArray, List.getElem?_cons_succ, List.getElem?_cons_zero]; rfl) (by kernel_rfl) (by kernel_rfl) (by kernel_rfl) (by exact fun _ _ _ h => h) (Or.inl ⟨by rfl, ?_⟩) hHeld ?_
      rotate_left
      · intro w hSw; (try dsimp only at hSw); go_simp; (try with_reducible rfl)
      try simp only [Act.put, List.setIfInBounds_toArray, List.set_cons_zero, List.set_cons_succ]
      refine wpAnyH_take (i := 11) (v := undef) (by simp only [List.getElem?_toArray, List.getElem?_cons_succ, List.getElem?_cons_zero]; rfl) (by kernel_rfl) (by kernel_rfl) (by kernel_rfl) (by exact fun _ _ _ h => h) (Or.inr ⟨by rfl, rfl⟩) hHeld ?_
      try simp only [Act.put, List.setIfInBounds_toArray, List.set_cons_zero, List.set_cons_succ]
      refine wpAnyH_take (i := 12) (v := undef) (by simp only [List.getElem?_toArray, List.getElem?_cons_succ, List.getElem?_cons_zero]; rfl) (by kernel_rfl) (by kernel_rfl) (by kernel_rfl) (by exact fun _ _ _ h => h) (Or.inr ⟨by rfl, rfl⟩) hHeld ?_
      try simp only [Act.put, List.setIfInBounds_toArray, List.set_cons_zero, List.set_cons_succ]
      refine wpAnyH_take (i := 13) (v := undef) (by simp only [List.getElem?_toArray, List.getElem?_cons_succ, List.getElem?_cons_zero]; rfl) (by kernel_rfl) (by kernel_rfl) (by kernel_rfl) (by exact fun _ _ _ h => h) (Or.inr ⟨by rfl, rfl⟩) hHeld ?_
      try simp only [Act.put, List.setIfInBounds_toArray, List.set_cons_zero, List.set_cons_succ]
      refine wpAnyH_take (i := 14) (v := ?_) (by simp only [List.getElem?_toArray, List.getElem?_cons_succ, List.getElem?_cons_zero]; rfl) (by kernel_rfl) (by kernel_rfl) (by kernel_rfl) (by exact fun _ _ _ h => h) (Or.inl ⟨by rfl, ?_⟩) hHeld ?_
      rotate_left
      · intro w hSw; (try dsimp only at hSw); go_simp; (try with_reducible rfl)
      try simp only [Act.put, List.setIfInBounds_toArray, List.set_cons_zero, List.set_cons_succ]
      refine wpAnyH_take (i := 15) (v := ?_) (by simp only [List.getElem?_toArray, List.getElem?_cons_succ, List.getElem?_cons_zero]; rfl) (by kernel_rfl) (by kernel_rfl) (by kernel_rfl) (by exact fun _ _ _ h => h) (Or.inl ⟨by rfl, ?_⟩) hHeld ?_
      rotate_left
      · intro w hSw; (try dsimp only at hSw); go_simp; (try with_reducible rfl)
      try simp only [Act.put, List.setIfInBounds_toArray, List.set_cons_zero, List.set_cons_succ]
      refine wpAnyH_take (i := 16) (v := undef) (by simp only [List.getElem?_toArray, List.getElem?_cons_succ, List.getElem?_cons_zero]; rfl) (by kernel_rfl) (by kernel_rfl) (by kernel_rfl) (by exact fun _ _ _ h => h) (Or.inr ⟨by rfl, rfl⟩) hHeld ?_
      try simp only [Act.put, List.setIfInBounds_toArray, List.set_cons_zero, List.set_cons_succ]
      refine wpAnyH_take (i := 17) (v := undef) (by simp only [List.getElem?_toArray, List.getElem?_cons_succ, List.getElem?_cons_zero]; rfl) (by kernel_rfl) (by kernel_rfl) (by kernel_rfl) (by exact fun _ _ _ h => h) (Or.inr ⟨by rfl, rfl⟩) hHeld ?_
      try simp only [Act.put, List.setIfInBounds_toArray, List.set_cons_zero, List.set_cons_succ]
      refine wpAnyH_take (i := 18) (v := undef) (by simp only [List.getElem?_toArray, List.getElem?_cons_succ, List.getElem?_cons_zero]; rfl) (by kernel_rfl) (by kernel_rfl) (by kernel_rfl) (by exact fun _ _ _ h => h) (Or.inr ⟨by rfl, rfl⟩) hHeld ?_
      try simp only [Act.put, List.setIfInBounds_toArray, List.set_cons_zero, List.set_cons_succ]
      refine wpAnyH_take (i := 19) (v := ?_) (by simp only [List.getElem?_toArray, List.getElem?_cons_succ, List.getElem?_cons_zero]; rfl) (by kernel_rfl) (by kernel_rfl) (by kernel_rfl) (by exact fun _ _ _ h => h) (Or.inl ⟨by rfl, ?_⟩) hHeld ?_
      rotate_left
      · intro w hSw; (try dsimp only at hSw); go_simp; (try with_reducible rfl)
      try simp only [Act.put, List.setIfInBounds_toArray, List.set_cons_zero, List.set_cons_succ]
      refine wpAnyH_done (by kernel_rfl) ?_ _
      obtain ⟨⟨m0, m1, m2, m3, m4⟩, ⟨c0, c1, c2, c3⟩, ⟨r0, r1, r2, r3⟩, ⟨f0, f1, f2, f3⟩, ⟨g0, g1, g2, g3⟩, z1, z2⟩ := hb3.facts
      have HBL := Lib.hid hb3
      clear hT0 hT1 hT3 hb1 hb3
      go_wp2_with fail
      refine bodyPost_ret (v := .agg #[.int .i64 k, .int .i64 s, .int .i64 x, .int .i64 y]) (by simp [results, Try.results38, go_sem, *]) rfl ⟨rfl, ?_, ?_⟩
      · repeat (first | (with_reducible exact hA5) | refine MemT.set (B := B) ?_ ha HV.out _ (by show B ≤ _; dsimp only; omega) _)
      · repeat (first | (with_reducible exact (HK3.out.no)) | refine kset HB.out ?_ _ (by show B ≤ _; dsimp only; omega) _)
    rw [decide_eq_true d1] at hok
    rw [decide_eq_true d1]
    have d1' : decide ((M.L.length : Int) < sz) = false := decide_eq_false (by omega)
    by_cases d2 : 0 ≤ s
    case neg =>
      rw [decide_eq_false d2, Bool.and_false, Bool.false_and, if_neg (by decide)]
      have d2' : decide (s < 0) = true := decide_eq_true (by omega)
      clear hok d1 d2
      unfold bumpV
      dsimp only
      go_enter Try.func38, Try.ntmps38
      go_wp2_with fail
      rw [HB.out]
      have hT0 := HBX.out.drew.two
      have hA3 := HA2.out.drew
      refine wp_region_held_drew (S := (fun w' => (w'.cell? ⟨B, 0, none⟩ = some (.int .i64 ms) ∧ w'.cell? ⟨B, 1, none⟩ = some (.int .i64 ml) ∧ w'.cell? ⟨B, 2, none⟩ = some (.int .i64 mt) ∧ w'.cell? ⟨B, 3, none⟩ = some (.int .i64 mc) ∧ w'.cell? ⟨B, 4, none⟩ = some (.int .i64 md)) ∧ (w'.cell? ⟨(B + 1), 0, none⟩ = some (.int .i64 k) ∧ w'.cell? ⟨(B + 1), 1, none⟩ = some (.int .i64 s) ∧ w'.cell? ⟨(B + 1), 2, none⟩ = some (.int .i64 x) ∧ w'.cell? ⟨(B + 1), 3, none⟩ = some (.int .i64 y)))) (by kernel_rfl) (hT0) (fun hHeld => ?_)
      refine wpAnyH_take (i := 0) (v := ?_) (by simp only [List.getElem?_toArray, List.getElem?_cons_succ, List.getElem?_cons_zero]; rfl) (by kernel_rfl) (by kernel_rfl) (by kernel_rfl) (by exact fun _ _ _ h => h) (Or.inl ⟨by rfl, ?_⟩) hHeld ?_
      rotate_left
      · intro w hSw; (try dsimp only at hSw); go_simp; (try with_reducible rfl)
      try simp only [Act.put, List.setIfInBounds_toArray, List.set_cons_zero, List.set_cons_succ]
      refine wpAnyH_ready (rs := [1]) (by kernel_rfl) (by simp) ?_
      refine AllReadyH.cons (by simp only [List.getElem?_toArray, List.getElem?_cons_succ, List.getElem?_cons_zero]; rfl) (fun kC hkC => ?_) AllReadyH.nil
      go_simp
      refine (may_any ⟨ms, ml, mt, mc, md⟩ _).mono ?_; rw [HMY.out]; rintro e w1 ⟨rfl, hk1⟩; have hb1 := HBX.out.drew.no hk1; have hT1 := hb1.two; have hA4 := hA3.keep hk1 (fun f => f) (fun _ _ f => f); have HK1 := Lib.hid (HK.out.drew.trans hk1)
      (try go_wp2_with fail)
      refine hkC.out _ _ (hT1) (fun hHeld => ?_)
      clear hkC kC
      try simp only [Act.put, List.setIfInBounds_toArray, List.set_cons_zero, List.set_cons_succ]
      refine wpAnyH_take (i := 2) (v := ?_) (by simp only [List.getElem?_toArray, List.getElem?_cons_succ, List.getElem?_cons_zero]; rfl) (by kernel_rfl) (by kernel_rfl) (by kernel_rfl) (by exact fun _ _ _ h => h) (Or.inl ⟨by rfl, ?_⟩) hHeld ?_
      rotate_left
      · intro w hSw; (try dsimp only at hSw); go_simp; (try with_reducible rfl)
      try simp only [Act.put, List.setIfInBounds_toArray, List.set_cons_zero, List.set_cons_succ]
      refine wpAnyH_take (i := 3) (v := ?_) (by simp only [List.getElem?_toArray, List.getElem?_cons_succ, List.getElem?_cons_zero]; rfl) (by kernel_rfl) (by kernel_rfl) (by kernel_rfl) (by exact fun _ _ _ h => h) (Or.inl ⟨by rfl, ?_⟩) hHeld ?_
      rotate_left
      · intro w hSw; (try dsimp only at hSw); go_simp; (try with_reducible rfl)
      try simp only [Act.put, List.setIfInBounds_toArray, List.set_cons_zero, List.set_cons_succ]
      refine wpAnyH_take (i := 4) (v := ?_) (by simp only [List.getElem?_toArray, List.getElem?_cons_succ, List.getElem?_cons_zero]; rfl) (by kernel_rfl) (by kernel_rfl) (by kernel_rfl) (by exact fun _ _ _ h => h) (Or.inl ⟨by rfl, ?_⟩) hHeld ?_
      rotate_left
      · intro w hSw; (try dsimp only at hSw); go_simp; (try with_reducible rfl)
      try simp only [Act.put, List.setIfInBounds_toArray, List.set_cons_zero, List.set_cons_succ]
      refine wpAnyH_take (i := 6) (v := ?_) (by simp only [List.getElem?_toArray, List.getElem?_cons_succ, List.getElem?_cons_zero]; rfl) (by kernel_rfl) (by kernel_rfl) (by kernel_rfl) (by exact fun _ _ _ h => h) (Or.inl ⟨by rfl, ?_⟩) hHeld ?_
      rotate_left
      · intro w hSw; (try dsimp only at hSw); go_simp; (try with_reducible rfl)
      try simp only [Act.put, List.setIfInBounds_toArray, List.set_cons_zero, List.set_cons_succ]
      refine wpAnyH_ready (rs := [5]) (by kernel_rfl) (by simp) ?_
      refine AllReadyH.cons (by simp only [List.getElem?_toArray, List.getElem?_cons_succ, List.getElem?_cons_zero]; rfl) (fun kC hkC => ?_) AllReadyH.nil
      go_simp
      refine (mlen_any a v M _ hA4).mono ?_; rintro e w2 ⟨rfl, rfl⟩
      (try go_wp2_with fail)
      refine hkC.out _ _ (hT1) (fun hHeld => ?_)
      clear hkC kC
      try simp only [Act.put, List.setIfInBounds_toArray, List.set_cons_zero, List.set_cons_succ]
      refine wpAnyH_ready (rs := [7]) (by kernel_rfl) (by simp) ?_
      refine AllReadyH.cons (by simp only [List.getElem?_toArray, List.getElem?_cons_succ, List.getElem?_cons_zero]; rfl) (fun kC hkC => ?_) AllReadyH.nil
      go_simp
      refine (size_lit ms ml mt mc md sz HSZ.out _).mono ?_; rintro e w3 ⟨rfl, hk3⟩; have hb3 := hb1.no hk3; have hT3 := hb3.two; have hA5 := hA4.keep hk3 (fun f => f) (fun _ _ f => f); have HK3 := Lib.hid (HK1.out.trans hk3)
      (try go_wp2_with fail)
      refine hkC.out _ _ (hT3) (fun hHeld => ?_)
      clear hkC kC
      try simp only [Act.put, List.setIfInBounds_toArray, List.set_cons_zero, List.set_cons_succ]
      refine wpAnyH_take (i := 8) (v := ?_) (by simp only [List.getElem?_toArray, List.getElem?_cons_succ, List.getElem?_cons_zero]; rfl) (by kernel_rfl) (by kernel_rfl) (by kernel_rfl) (by exact fun _ _ _ h => h) (Or.inl ⟨by rfl, ?_⟩) hHeld ?_
      rotate_left
      · intro w hSw; (try dsimp only at hSw); go_simp; (try with_reducible rfl)
      try simp only [Act.put, List.setIfInBounds_toArray, List.set_cons_zero, List.set_cons_succ]
      refine wpAnyH_take (i := 9) (v := ?_) (by simp only [List.getElem?_toArray, List.getElem?_cons_succ, List.getElem?_cons_zero]; rfl) (by kernel_rfl) (by kernel_rfl) (by kernel_rfl) (by exact fun _ _ _ h => h) (Or.inl ⟨by rfl, ?_⟩) hHeld ?_
      rotate_left
      · intro w hSw; (try dsimp only at hSw); go_simp; (try with_reducible rfl)
      try simp only [Act.put, List.setIfInBounds_toArray, List.set_cons_zero, List.set_cons_succ]
      refine wpAnyH_take (i := 10) (v := ?_) (by simp only [List.getElem?_toArray, List.getElem?_cons_succ, List.getElem?_cons_zero]; rfl) (by kernel_rfl) (by kernel_rfl) (by kernel_rfl) (by exact fun _ _ _ h => h) (Or.inl ⟨by rfl, ?_⟩) hHeld ?_
      rotate_left
      · intro w hSw; (try dsimp only at hSw); go_simp; (try with_reducible rfl)
      try simp only [Act.put, List.setIfInBounds_toArray, List.set_cons_zero, List.set_cons_succ]
      refine wpAnyH_take (i := 11) (v := ?_) (by simp only [List.getElem?_toArray, List.getElem?_cons_succ, List.getElem?_cons_zero]; rfl) (by kernel_rfl) (by kernel_rfl) (by kernel_rfl) (by exact fun _ _ _ h => h) (Or.inl ⟨by rfl, ?_⟩) hHeld ?_
      rotate_left
      · intro w hSw; (try dsimp only at hSw); go_simp; (try with_reducible rfl)
      try simp only [Act.put, List.setIfInBounds_toArray, List.set_cons_zero, List.set_cons_succ]
      refine wpAnyH_take (i := 12) (v := ?_) (by simp only [List.getElem?_toArray, List.getElem?_cons_succ, List.getElem?_cons_zero]; rfl) (by kernel_rfl) (by kernel_rfl) (by kernel_rfl) (by exact fun _ _ _ h => h) (Or.inl ⟨by rfl, ?_⟩) hHeld ?_
      rotate_left
      · intro w hSw; (try dsimp only at hSw); go_simp; (try with_reducible rfl)
      try simp only [Act.put, List.setIfInBounds_toArray, List.set_cons_zero, List.set_cons_succ]
      refine wpAnyH_take (i := 13) (v := ?_) (by simp only [List.getElem?_toArray, List.getElem?_cons_succ, List.getElem?_cons_zero]; rfl) (by kernel_rfl) (by kernel_rfl) (by kernel_rfl) (by exact fun _ _ _ h => h) (Or.inl ⟨by rfl, ?_⟩) hHeld ?_
      rotate_left
      · intro w hSw; (try dsimp only at hSw); go_simp; (try with_reducible rfl)
      try simp only [Act.put, List.setIfInBounds_toArray, List.set_cons_zero, List.set_cons_succ]
      refine wpAnyH_take (i := 14) (v := ?_) (by simp only [List.getElem?_toArray, List.getElem?_cons_succ, List.getElem?_cons_zero]; rfl) (by kernel_rfl) (by kernel_rfl) (by kernel_rfl) (by exact fun _ _ _ h => h) (Or.inl ⟨by rfl, ?_⟩) hHeld ?_
      rotate_left
      · intro w hSw; (try dsimp only at hSw); go_simp; (try with_reducible rfl)
      try simp only [Act.put, List.setIfInBounds_toArray, List.set_cons_zero, List.set_cons_succ]
      refine wpAnyH_take (i := 15) (v := ?_) (by simp only [List.getElem?_toArray, List.getElem?_cons_succ, List.getElem?_cons_zero]; rfl) (by kernel_rfl) (by kernel_rfl) (by kernel_rfl) (by exact fun _ _ _ h => h) (Or.inl ⟨by rfl, ?_⟩) hHeld ?_
      rotate_left
      · intro w hSw; (try dsimp only at hSw); go_simp; (try with_reducible rfl)
      try simp only [Act.put, List.setIfInBounds_toArray, List.set_cons_zero, List.set_cons_succ]
      refine wpAnyH_take (i := 16) (v := undef) (by simp only [List.getElem?_toArray, List.getElem?_cons_succ, List.getElem?_cons_zero]; rfl) (by kernel_rfl) (by kernel_rfl) (by kernel_rfl) (by exact fun _ _ _ h => h) (Or.inr ⟨by rfl, rfl⟩) hHeld ?_
      try simp only [Act.put, List.setIfInBounds_toArray, List.set_cons_zero, List.set_cons_succ]
      refine wpAnyH_take (i := 17) (v := undef) (by simp only [List.getElem?_toArray, List.getElem?_cons_succ, List.getElem?_cons_zero]; rfl) (by kernel_rfl) (by kernel_rfl) (by kernel_rfl) (by exact fun _ _ _ h => h) (Or.inr ⟨by rfl, rfl⟩) hHeld ?_
      try simp only [Act.put, List.setIfInBounds_toArray, List.set_cons_zero, List.set_cons_succ]
      refine wpAnyH_take (i := 18) (v := undef) (by simp only [List.getElem?_toArray, List.getElem?_cons_succ, List.getElem?_cons_zero]; rfl) (by kernel_rfl) (by kernel_rfl) (by kernel_rfl) (by exact fun _ _ _ h => h) (Or.inr ⟨by rfl, rfl⟩) hHeld ?_
      try simp only [Act.put, List.setIfInBounds_toArray, List.set_cons_zero, List.set_cons_succ]
      refine wpAnyH_take (i := 19) (v := ?_) (by simp only [List.getElem?_toArray, List.getElem?_cons_succ, List.getElem?_cons_zero]; rfl) (by kernel_rfl) (by kernel_rfl) (by kernel_rfl) (by exact fun _ _ _ h => h) (Or.inl ⟨by rfl, ?_⟩) hHeld ?_
      rotate_left
      · intro w hSw; (try dsimp only at hSw); go_simp; (try with_reducible rfl)
      try simp only [Act.put, List.setIfInBounds_toArray, List.set_cons_zero, List.set_cons_succ]
      refine wpAnyH_done (by kernel_rfl) ?_ _
      obtain ⟨⟨m0, m1, m2, m3, m4⟩, ⟨c0, c1, c2, c3⟩, ⟨r0, r1, r2, r3⟩, ⟨f0, f1, f2, f3⟩, ⟨g0, g1, g2, g3⟩, z1, z2⟩ := hb3.facts
      have HBL := Lib.hid hb3
      clear hT0 hT1 hT3 hb1 hb3
      go_wp2_with fail
      refine bodyPost_ret (v := .agg #[.int .i64 k, .int .i64 s, .int .i64 x, .int .i64 y]) (by simp [results, Try.results38, go_sem, *]) rfl ⟨rfl, ?_, ?_⟩
      · repeat (first | (with_reducible exact hA5) | refine MemT.set (B := B) ?_ ha HV.out _ (by show B ≤ _; dsimp only; omega) _)
      · repeat (first | (with_reducible exact (HK3.out.no)) | refine kset HB.out ?_ _ (by show B ≤ _; dsimp only; omega) _)
    rw [decide_eq_true d2] at hok
    rw [decide_eq_true d2]
    have d2' : decide (s < 0) = false := decide_eq_false (by omega)
    by_cases d3 : s ≤ 1
    case neg =>
      rw [decide_eq_false d3, Bool.and_false, if_neg (by decide)]
      have d3' : decide (1 < s) = true := decide_eq_true (by omega)
      clear hok d1 d2 d3
      unfold bumpV
      dsimp only
      go_enter Try.func38, Try.ntmps38
      go_wp2_with fail
      rw [HB.out]
      have hT0 := HBX.out.drew.two
      have hA3 := HA2.out.drew
      refine wp_region_held_drew (S := (fun w' => (w'.cell? ⟨B, 0, none⟩ = some (.int .i64 ms) ∧ w'.cell? ⟨B, 1, none⟩ = some (.int .i64 ml) ∧ w'.cell? ⟨B, 2, none⟩ = some (.int .i64 mt) ∧ w'.cell? ⟨B, 3, none⟩ = some (.int .i64 mc) ∧ w'.cell? ⟨B, 4, none⟩ = some (.int .i64 md)) ∧ (w'.cell? ⟨(B + 1), 0, none⟩ = some (.int .i64 k) ∧ w'.cell? ⟨(B + 1), 1, none⟩ = some (.int .i64 s) ∧ w'.cell? ⟨(B + 1), 2, none⟩ = some (.int .i64 x) ∧ w'.cell? ⟨(B + 1), 3, none⟩ = some (.int .i64 y)))) (by kernel_rfl) (hT0) (fun hHeld => ?_)
      refine wpAnyH_take (i := 0) (v := ?_) (by simp only [List.getElem?_toArray, List.getElem?_cons_succ, List.getElem?_cons_zero]; rfl) (by kernel_rfl) (by kernel_rfl) (by kernel_rfl) (by exact fun _ _ _ h => h) (Or.inl ⟨by rfl, ?_⟩) hHeld ?_
      rotate_left
      · intro w hSw; (try dsimp only at hSw); go_simp; (try with_reducible rfl)
      try simp only [Act.put, List.setIfInBounds_toArray, List.set_cons_zero, List.set_cons_succ]
      refine wpAnyH_ready (rs := [1]) (by kernel_rfl) (by simp) ?_
      refine AllReadyH.cons (by simp only [List.getElem?_toArray, List.getElem?_cons_succ, List.getElem?_cons_zero]; rfl) (fun kC hkC => ?_) AllReadyH.nil
      go_simp
      refine (may_any ⟨ms, ml, mt, mc, md⟩ _).mono ?_; rw [HMY.out]; rintro e w1 ⟨rfl, hk1⟩; have hb1 := HBX.out.drew.no hk1; have hT1 := hb1.two; have hA4 := hA3.keep hk1 (fun f => f) (fun _ _ f => f); have HK1 := Lib.hid (HK.out.drew.trans hk1)
      (try go_wp2_with fail)
      refine hkC.out _ _ (hT1) (fun hHeld => ?_)
      clear hkC kC
      try simp only [Act.put, List.setIfInBounds_toArray, List.set_cons_zero, List.set_cons_succ]
      refine wpAnyH_take (i := 2) (v := ?_) (by simp only [List.getElem?_toArray, List.getElem?_cons_succ, List.getElem?_cons_zero]; rfl) (by kernel_rfl) (by kernel_rfl) (by kernel_rfl) (by exact fun _ _ _ h => h) (Or.inl ⟨by rfl, ?_⟩) hHeld ?_
      rotate_left
      · intro w hSw; (try dsimp only at hSw); go_simp; (try with_reducible rfl)
      try simp only [Act.put, List.setIfInBounds_toArray, List.set_cons_zero, List.set_cons_succ]
      refine wpAnyH_take (i := 3) (v := ?_) (by simp only [List.getElem?_toArray, List.getElem?_cons_succ, List.getElem?_cons_zero]; rfl) (by kernel_rfl) (by kernel_rfl) (by kernel_rfl) (by exact fun _ _ _ h => h) (Or.inl ⟨by rfl, ?_⟩) hHeld ?_
      rotate_left
      · intro w hSw; (try dsimp only at hSw); go_simp; (try with_reducible rfl)
      try simp only [Act.put, List.setIfInBounds_toArray, List.set_cons_zero, List.set_cons_succ]
      refine wpAnyH_take (i := 4) (v := ?_) (by simp only [List.getElem?_toArray, List.getElem?_cons_succ, List.getElem?_cons_zero]; rfl) (by kernel_rfl) (by kernel_rfl) (by kernel_rfl) (by exact fun _ _ _ h => h) (Or.inl ⟨by rfl, ?_⟩) hHeld ?_
      rotate_left
      · intro w hSw; (try dsimp only at hSw); go_simp; (try with_reducible rfl)
      try simp only [Act.put, List.setIfInBounds_toArray, List.set_cons_zero, List.set_cons_succ]
      refine wpAnyH_take (i := 6) (v := ?_) (by simp only [List.getElem?_toArray, List.getElem?_cons_succ, List.getElem?_cons_zero]; rfl) (by kernel_rfl) (by kernel_rfl) (by kernel_rfl) (by exact fun _ _ _ h => h) (Or.inl ⟨by rfl, ?_⟩) hHeld ?_
      rotate_left
      · intro w hSw; (try dsimp only at hSw); go_simp; (try with_reducible rfl)
      try simp only [Act.put, List.setIfInBounds_toArray, List.set_cons_zero, List.set_cons_succ]
      refine wpAnyH_ready (rs := [5]) (by kernel_rfl) (by simp) ?_
      refine AllReadyH.cons (by simp only [List.getElem?_toArray, List.getElem?_cons_succ, List.getElem?_cons_zero]; rfl) (fun kC hkC => ?_) AllReadyH.nil
      go_simp
      refine (mlen_any a v M _ hA4).mono ?_; rintro e w2 ⟨rfl, rfl⟩
      (try go_wp2_with fail)
      refine hkC.out _ _ (hT1) (fun hHeld => ?_)
      clear hkC kC
      try simp only [Act.put, List.setIfInBounds_toArray, List.set_cons_zero, List.set_cons_succ]
      refine wpAnyH_ready (rs := [7]) (by kernel_rfl) (by simp) ?_
      refine AllReadyH.cons (by simp only [List.getElem?_toArray, List.getElem?_cons_succ, List.getElem?_cons_zero]; rfl) (fun kC hkC => ?_) AllReadyH.nil
      go_simp
      refine (size_lit ms ml mt mc md sz HSZ.out _).mono ?_; rintro e w3 ⟨rfl, hk3⟩; have hb3 := hb1.no hk3; have hT3 := hb3.two; have hA5 := hA4.keep hk3 (fun f => f) (fun _ _ f => f); have HK3 := Lib.hid (HK1.out.trans hk3)
      (try go_wp2_with fail)
      refine hkC.out _ _ (hT3) (fun hHeld => ?_)
      clear hkC kC
      try simp only [Act.put, List.setIfInBounds_toArray, List.set_cons_zero, List.set_cons_succ]
      refine wpAnyH_take (i := 8) (v := ?_) (by simp only [List.getElem?_toArray, List.getElem?_cons_succ, List.getElem?_cons_zero]; rfl) (by kernel_rfl) (by kernel_rfl) (by kernel_rfl) (by exact fun _ _ _ h => h) (Or.inl ⟨by rfl, ?_⟩) hHeld ?_
      rotate_left
      · intro w hSw; (try dsimp only at hSw); go_simp; (try with_reducible rfl)
      try simp only [Act.put, List.setIfInBounds_toArray, List.set_cons_zero, List.set_cons_succ]
      refine wpAnyH_take (i := 9) (v := ?_) (by simp only [List.getElem?_toArray, List.getElem?_cons_succ, List.getElem?_cons_zero]; rfl) (by kernel_rfl) (by kernel_rfl) (by kernel_rfl) (by exact fun _ _ _ h => h) (Or.inl ⟨by rfl, ?_⟩) hHeld ?_
      rotate_left
      · intro w hSw; (try dsimp only at hSw); go_simp; (try with_reducible rfl)
      try simp only [Act.put, List.setIfInBounds_toArray, List.set_cons_zero, List.set_cons_succ]
      refine wpAnyH_take (i := 10) (v := ?_) (by simp only [List.getElem?_toArray, List.getElem?_cons_succ, List.getElem?_cons_zero]; rfl) (by kernel_rfl) (by kernel_rfl) (by kernel_rfl) (by exact fun _ _ _ h => h) (Or.inl ⟨by rfl, ?_⟩) hHeld ?_
      rotate_left
      · intro w hSw; (try dsimp only at hSw); go_simp; (try with_reducible rfl)
      try simp only [Act.put, List.setIfInBounds_toArray, List.set_cons_zero, List.set_cons_succ]
      refine wpAnyH_take (i := 11) (v := ?_) (by simp only [List.getElem?_toArray, List.getElem?_cons_succ, List.getElem?_cons_zero]; rfl) (by kernel_rfl) (by kernel_rfl) (by kernel_rfl) (by exact fun _ _ _ h => h) (Or.inl ⟨by rfl, ?_⟩) hHeld ?_
      rotate_left
      · intro w hSw; (try dsimp only at hSw); go_simp; (try with_reducible rfl)
      try simp only [Act.put, List.setIfInBounds_toArray, List.set_cons_zero, List.set_cons_succ]
      refine wpAnyH_take (i := 12) (v := ?_) (by simp only [List.getElem?_toArray, List.getElem?_cons_succ, List.getElem?_cons_zero]; rfl) (by kernel_rfl) (by kernel_rfl) (by kernel_rfl) (by exact fun _ _ _ h => h) (Or.inl ⟨by rfl, ?_⟩) hHeld ?_
      rotate_left
      · intro w hSw; (try dsimp only at hSw); go_simp; (try with_reducible rfl)
      try simp only [Act.put, List.setIfInBounds_toArray, List.set_cons_zero, List.set_cons_succ]
      refine wpAnyH_take (i := 13) (v := ?_) (by simp only [List.getElem?_toArray, List.getElem?_cons_succ, List.getElem?_cons_zero]; rfl) (by kernel_rfl) (by kernel_rfl) (by kernel_rfl) (by exact fun _ _ _ h => h) (Or.inl ⟨by rfl, ?_⟩) hHeld ?_
      rotate_left
      · intro w hSw; (try dsimp only at hSw); go_simp; (try with_reducible rfl)
      try simp only [Act.put, List.setIfInBounds_toArray, List.set_cons_zero, List.set_cons_succ]
      refine wpAnyH_take (i := 14) (v := ?_) (by simp only [List.getElem?_toArray, List.getElem?_cons_succ, List.getElem?_cons_zero]; rfl) (by kernel_rfl) (by kernel_rfl) (by kernel_rfl) (by exact fun _ _ _ h => h) (Or.inl ⟨by rfl, ?_⟩) hHeld ?_
      rotate_left
      · intro w hSw; (try dsimp only at hSw); go_simp; (try with_reducible rfl)
      try simp only [Act.put, List.setIfInBounds_toArray, List.set_cons_zero, List.set_cons_succ]
      refine wpAnyH_take (i := 15) (v := ?_) (by simp only [List.getElem?_toArray, List.getElem?_cons_succ, List.getElem?_cons_zero]; rfl) (by kernel_rfl) (by kernel_rfl) (by kernel_rfl) (by exact fun _ _ _ h => h) (Or.inl ⟨by rfl, ?_⟩) hHeld ?_
      rotate_left
      · intro w hSw; (try dsimp only at hSw); go_simp; (try with_reducible rfl)
      try simp only [Act.put, List.setIfInBounds_toArray, List.set_cons_zero, List.set_cons_succ]
      refine wpAnyH_take (i := 16) (v := ?_) (by simp only [List.getElem?_toArray, List.getElem?_cons_succ, List.getElem?_cons_zero]; rfl) (by kernel_rfl) (by kernel_rfl) (by kernel_rfl) (by exact fun _ _ _ h => h) (Or.inl ⟨by rfl, ?_⟩) hHeld ?_
      rotate_left
      · intro w hSw; (try dsimp only at hSw); go_simp; (try with_reducible rfl)
      try simp only [Act.put, List.setIfInBounds_toArray, List.set_cons_zero, List.set_cons_succ]
      refine wpAnyH_take (i := 17) (v := ?_) (by simp only [List.getElem?_toArray, List.getElem?_cons_succ, List.getElem?_cons_zero]; rfl) (by kernel_rfl) (by kernel_rfl) (by kernel_rfl) (by exact fun _ _ _ h => h) (Or.inl ⟨by rfl, ?_⟩) hHeld ?_
      rotate_left
      · intro w hSw; (try dsimp only at hSw); go_simp; (try with_reducible rfl)
      try simp only [Act.put, List.setIfInBounds_toArray, List.set_cons_zero, List.set_cons_succ]
      refine wpAnyH_take (i := 18) (v := ?_) (by simp only [List.getElem?_toArray, List.getElem?_cons_succ, List.getElem?_cons_zero]; rfl) (by kernel_rfl) (by kernel_rfl) (by kernel_rfl) (by exact fun _ _ _ h => h) (Or.inl ⟨by rfl, ?_⟩) hHeld ?_
      rotate_left
      · intro w hSw; (try dsimp only at hSw); go_simp; (try with_reducible rfl)
      try simp only [Act.put, List.setIfInBounds_toArray, List.set_cons_zero, List.set_cons_succ]
      refine wpAnyH_take (i := 19) (v := ?_) (by simp only [List.getElem?_toArray, List.getElem?_cons_succ, List.getElem?_cons_zero]; rfl) (by kernel_rfl) (by kernel_rfl) (by kernel_rfl) (by exact fun _ _ _ h => h) (Or.inl ⟨by rfl, ?_⟩) hHeld ?_
      rotate_left
      · intro w hSw; (try dsimp only at hSw); go_simp; (try with_reducible rfl)
      try simp only [Act.put, List.setIfInBounds_toArray, List.set_cons_zero, List.set_cons_succ]
      refine wpAnyH_done (by kernel_rfl) ?_ _
      obtain ⟨⟨m0, m1, m2, m3, m4⟩, ⟨c0, c1, c2, c3⟩, ⟨r0, r1, r2, r3⟩, ⟨f0, f1, f2, f3⟩, ⟨g0, g1, g2, g3⟩, z1, z2⟩ := hb3.facts
      have HBL := Lib.hid hb3
      clear hT0 hT1 hT3 hb1 hb3
      go_wp2_with fail
      refine bodyPost_ret (v := .agg #[.int .i64 k, .int .i64 s, .int .i64 x, .int .i64 y]) (by simp [results, Try.results38, go_sem, *]) rfl ⟨rfl, ?_, ?_⟩
      · repeat (first | (with_reducible exact hA5) | refine MemT.set (B := B) ?_ ha HV.out _ (by show B ≤ _; dsimp only; omega) _)
      · repeat (first | (with_reducible exact (HK3.out.no)) | refine kset HB.out ?_ _ (by show B ≤ _; dsimp only; omega) _)
    rw [decide_eq_true d3] at hok
    rw [decide_eq_true d3, if_pos (show (true && true && true && true) = true from rfl)]
    obtain ⟨h2, hcl, hsq, hs⟩ := HLN.out hok
    have HCL := Lib.hid hcl; have HSQ := Lib.hid hsq
    have hn0 : 0 < M.L.length := by omega
    have hn1 : 1 < M.L.length := by omega
    clear hok d1 d2 d2' d3 hcl hsq h2
    unfold stepK
    dsimp only
    by_cases k1 : k = 1
    · subst k1
      rw [if_pos rfl]
      rcases hs with rfl | rfl
      · rw [if_pos rfl]
        obtain ⟨st, hst⟩ : ∃ st, wrap64 (M.word 0 + 1) = st := ⟨_, rfl⟩
        have hst' : IntKind.i64.wrap (M.word 0 + 1) = st := (IntWalk.i64_left _).trans hst
        rw [hst]
        clear hst
        have d2' : decide ((0 : Int) < 0) = false := rfl
        unfold bumpV
        dsimp only
        go_enter Try.func38, Try.ntmps38
        go_wp2_with fail
        rw [HB.out]
        have hT0 := HBX.out.drew.two
        have hA3 := HA2.out.drew
        refine wp_region_held_drew (S := (fun w' => (w'.cell? ⟨B, 0, none⟩ = some (.int .i64 ms) ∧ w'.cell? ⟨B, 1, none⟩ = some (.int .i64 ml) ∧ w'.cell? ⟨B, 2, none⟩ = some (.int .i64 mt) ∧ w'.cell? ⟨B, 3, none⟩ = some (.int .i64 mc) ∧ w'.cell? ⟨B, 4, none⟩ = some (.int .i64 md)) ∧ (w'.cell? ⟨(B + 1), 0, none⟩ = some (.int .i64 1) ∧ w'.cell? ⟨(B + 1), 1, none⟩ = some (.int .i64 0) ∧ w'.cell? ⟨(B + 1), 2, none⟩ = some (.int .i64 x) ∧ w'.cell? ⟨(B + 1), 3, none⟩ = some (.int .i64 y)))) (by kernel_rfl) (hT0) (fun hHeld => ?_)
        refine wpAnyH_take (i := 0) (v := ?_) (by simp only [List.getElem?_toArray, List.getElem?_cons_succ, List.getElem?_cons_zero]; rfl) (by kernel_rfl) (by kernel_rfl) (by kernel_rfl) (by exact fun _ _ _ h => h) (Or.inl ⟨by rfl, ?_⟩) hHeld ?_
        rotate_left
        · intro w hSw; (try dsimp only at hSw); go_simp; (try with_reducible rfl)
        try simp only [Act.put, List.setIfInBounds_toArray, List.set_cons_zero, List.set_cons_succ]
        refine wpAnyH_ready (rs := [1]) (by kernel_rfl) (by simp) ?_
        refine AllReadyH.cons (by simp only [List.getElem?_toArray, List.getElem?_cons_succ, List.getElem?_cons_zero]; rfl) (fun kC hkC => ?_) AllReadyH.nil
        go_simp
        refine (may_any ⟨ms, ml, mt, mc, md⟩ _).mono ?_; rw [HMY.out]; rintro e w1 ⟨rfl, hk1⟩; have hb1 := HBX.out.drew.no hk1; have hT1 := hb1.two; have hA4 := hA3.keep hk1 (fun f => f) (fun _ _ f => f); have HK1 := Lib.hid (HK.out.drew.trans hk1)
        (try go_wp2_with fail)
        refine hkC.out _ _ (hT1) (fun hHeld => ?_)
        clear hkC kC
        try simp only [Act.put, List.setIfInBounds_toArray, List.set_cons_zero, List.set_cons_succ]
        refine wpAnyH_take (i := 2) (v := ?_) (by simp only [List.getElem?_toArray, List.getElem?_cons_succ, List.getElem?_cons_zero]; rfl) (by kernel_rfl) (by kernel_rfl) (by kernel_rfl) (by exact fun _ _ _ h => h) (Or.inl ⟨by rfl, ?_⟩) hHeld ?_
        rotate_left
        · intro w hSw; (try dsimp only at hSw); go_simp; (try with_reducible rfl)
        try simp only [Act.put, List.setIfInBounds_toArray, List.set_cons_zero, List.set_cons_succ]
        refine wpAnyH_take (i := 3) (v := ?_) (by simp only [List.getElem?_toArray, List.getElem?_cons_succ, List.getElem?_cons_zero]; rfl) (by kernel_rfl) (by kernel_rfl) (by kernel_rfl) (by exact fun _ _ _ h => h) (Or.inl ⟨by rfl, ?_⟩) hHeld ?_
        rotate_left
        · intro w hSw; (try dsimp only at hSw); go_simp; (try with_reducible rfl)
        try simp only [Act.put, List.setIfInBounds_toArray, List.set_cons_zero, List.set_cons_succ]
        refine wpAnyH_take (i := 4) (v := ?_) (by simp only [List.getElem?_toArray, List.getElem?_cons_succ, List.getElem?_cons_zero]; rfl) (by kernel_rfl) (by kernel_rfl) (by kernel_rfl) (by exact fun _ _ _ h => h) (Or.inl ⟨by rfl, ?_⟩) hHeld ?_
        rotate_left
        · intro w hSw; (try dsimp only at hSw); go_simp; (try with_reducible rfl)
        try simp only [Act.put, List.setIfInBounds_toArray, List.set_cons_zero, List.set_cons_succ]
        refine wpAnyH_take (i := 6) (v := ?_) (by simp only [List.getElem?_toArray, List.getElem?_cons_succ, List.getElem?_cons_zero]; rfl) (by kernel_rfl) (by kernel_rfl) (by kernel_rfl) (by exact fun _ _ _ h => h) (Or.inl ⟨by rfl, ?_⟩) hHeld ?_
        rotate_left
        · intro w hSw; (try dsimp only at hSw); go_simp; (try with_reducible rfl)
        try simp only [Act.put, List.setIfInBounds_toArray, List.set_cons_zero, List.set_cons_succ]
        refine wpAnyH_ready (rs := [5]) (by kernel_rfl) (by simp) ?_
        refine AllReadyH.cons (by simp only [List.getElem?_toArray, List.getElem?_cons_succ, List.getElem?_cons_zero]; rfl) (fun kC hkC => ?_) AllReadyH.nil
        go_simp
        refine (mlen_any a v M _ hA4).mono ?_; rintro e w2 ⟨rfl, rfl⟩
        (try go_wp2_with fail)
        refine hkC.out _ _ (hT1) (fun hHeld => ?_)
        clear hkC kC
        try simp only [Act.put, List.setIfInBounds_toArray, List.set_cons_zero, List.set_cons_succ]
        refine wpAnyH_ready (rs := [7]) (by kernel_rfl) (by simp) ?_
        refine AllReadyH.cons (by simp only [List.getElem?_toArray, List.getElem?_cons_succ, List.getElem?_cons_zero]; rfl) (fun kC hkC => ?_) AllReadyH.nil
        go_simp
        refine (size_lit ms ml mt mc md sz HSZ.out _).mono ?_; rintro e w3 ⟨rfl, hk3⟩; have hb3 := hb1.no hk3; have hT3 := hb3.two; have hA5 := hA4.keep hk3 (fun f => f) (fun _ _ f => f); have HK3 := Lib.hid (HK1.out.trans hk3)
        (try go_wp2_with fail)
        refine hkC.out _ _ (hT3) (fun hHeld => ?_)
        clear hkC kC
        try simp only [Act.put, List.setIfInBounds_toArray, List.set_cons_zero, List.set_cons_succ]
        refine wpAnyH_take (i := 8) (v := ?_) (by simp only [List.getElem?_toArray, List.getElem?_cons_succ, List.getElem?_cons_zero]; rfl) (by kernel_rfl) (by kernel_rfl) (by kernel_rfl) (by exact fun _ _ _ h => h) (Or.inl ⟨by rfl, ?_⟩) hHeld ?_
        rotate_left
        · intro w hSw; (try dsimp only at hSw); go_simp; (try with_reducible rfl)
        try simp only [Act.put, List.setIfInBounds_toArray, List.set_cons_zero, List.set_cons_succ]
        refine wpAnyH_take (i := 9) (v := ?_) (by simp only [List.getElem?_toArray, List.getElem?_cons_succ, List.getElem?_cons_zero]; rfl) (by kernel_rfl) (by kernel_rfl) (by kernel_rfl) (by exact fun _ _ _ h => h) (Or.inl ⟨by rfl, ?_⟩) hHeld ?_
        rotate_left
        · intro w hSw; (try dsimp only at hSw); go_simp; (try with_reducible rfl)
        try simp only [Act.put, List.setIfInBounds_toArray, List.set_cons_zero, List.set_cons_succ]
        refine wpAnyH_take (i := 10) (v := ?_) (by simp only [List.getElem?_toArray, List.getElem?_cons_succ, List.getElem?_cons_zero]; rfl) (by kernel_rfl) (by kernel_rfl) (by kernel_rfl) (by exact fun _ _ _ h => h) (Or.inl ⟨by rfl, ?_⟩) hHeld ?_
        rotate_left
        · intro w hSw; (try dsimp only at hSw); go_simp; (try with_reducible rfl)
        try simp only [Act.put, List.setIfInBounds_toArray, List.set_cons_zero, List.set_cons_succ]
        refine wpAnyH_take (i := 11) (v := ?_) (by simp only [List.getElem?_toArray, List.getElem?_cons_succ, List.getElem?_cons_zero]; rfl) (by kernel_rfl) (by kernel_rfl) (by kernel_rfl) (by exact fun _ _ _ h => h) (Or.inl ⟨by rfl, ?_⟩) hHeld ?_
        rotate_left
        · intro w hSw; (try dsimp only at hSw); go_simp; (try with_reducible rfl)
        try simp only [Act.put, List.setIfInBounds_toArray, List.set_cons_zero, List.set_cons_succ]
        refine wpAnyH_take (i := 12) (v := ?_) (by simp only [List.getElem?_toArray, List.getElem?_cons_succ, List.getElem?_cons_zero]; rfl) (by kernel_rfl) (by kernel_rfl) (by kernel_rfl) (by exact fun _ _ _ h => h) (Or.inl ⟨by rfl, ?_⟩) hHeld ?_
        rotate_left
        · intro w hSw; (try dsimp only at hSw); go_simp; (try with_reducible rfl)
        try simp only [Act.put, List.setIfInBounds_toArray, List.set_cons_zero, List.set_cons_succ]
        refine wpAnyH_take (i := 13) (v := ?_) (by simp only [List.getElem?_toArray, List.getElem?_cons_succ, List.getElem?_cons_zero]; rfl) (by kernel_rfl) (by kernel_rfl) (by kernel_rfl) (by exact fun _ _ _ h => h) (Or.inl ⟨by rfl, ?_⟩) hHeld ?_
        rotate_left
        · intro w hSw; (try dsimp only at hSw); go_simp; (try with_reducible rfl)
        try simp only [Act.put, List.setIfInBounds_toArray, List.set_cons_zero, List.set_cons_succ]
        refine wpAnyH_take (i := 14) (v := ?_) (by simp only [List.getElem?_toArray, List.getElem?_cons_succ, List.getElem?_cons_zero]; rfl) (by kernel_rfl) (by kernel_rfl) (by kernel_rfl) (by exact fun _ _ _ h => h) (Or.inl ⟨by rfl, ?_⟩) hHeld ?_
        rotate_left
        · intro w hSw; (try dsimp only at hSw); go_simp; (try with_reducible rfl)
        try simp only [Act.put, List.setIfInBounds_toArray, List.set_cons_zero, List.set_cons_succ]
        refine wpAnyH_take (i := 15) (v := ?_) (by simp only [List.getElem?_toArray, List.getElem?_cons_succ, List.getElem?_cons_zero]; rfl) (by kernel_rfl) (by kernel_rfl) (by kernel_rfl) (by exact fun _ _ _ h => h) (Or.inl ⟨by rfl, ?_⟩) hHeld ?_
        rotate_left
        · intro w hSw; (try dsimp only at hSw); go_simp; (try with_reducible rfl)
        try simp only [Act.put, List.setIfInBounds_toArray, List.set_cons_zero, List.set_cons_succ]
        refine wpAnyH_take (i := 16) (v := ?_) (by simp only [List.getElem?_toArray, List.getElem?_cons_succ, List.getElem?_cons_zero]; rfl) (by kernel_rfl) (by kernel_rfl) (by kernel_rfl) (by exact fun _ _ _ h => h) (Or.inl ⟨by rfl, ?_⟩) hHeld ?_
        rotate_left
        · intro w hSw; (try dsimp only at hSw); go_simp; (try with_reducible rfl)
        try simp only [Act.put, List.setIfInBounds_toArray, List.set_cons_zero, List.set_cons_succ]
        refine wpAnyH_take (i := 17) (v := ?_) (by simp only [List.getElem?_toArray, List.getElem?_cons_succ, List.getElem?_cons_zero]; rfl) (by kernel_rfl) (by kernel_rfl) (by kernel_rfl) (by exact fun _ _ _ h => h) (Or.inl ⟨by rfl, ?_⟩) hHeld ?_
        rotate_left
        · intro w hSw; (try dsimp only at hSw); go_simp; (try with_reducible rfl)
        try simp only [Act.put, List.setIfInBounds_toArray, List.set_cons_zero, List.set_cons_succ]
        refine wpAnyH_take (i := 18) (v := ?_) (by simp only [List.getElem?_toArray, List.getElem?_cons_succ, List.getElem?_cons_zero]; rfl) (by kernel_rfl) (by kernel_rfl) (by kernel_rfl) (by exact fun _ _ _ h => h) (Or.inl ⟨by rfl, ?_⟩) hHeld ?_
        rotate_left
        · intro w hSw; (try dsimp only at hSw); go_simp; (try with_reducible rfl)
        try simp only [Act.put, List.setIfInBounds_toArray, List.set_cons_zero, List.set_cons_succ]
        refine wpAnyH_take (i := 19) (v := ?_) (by simp only [List.getElem?_toArray, List.getElem?_cons_succ, List.getElem?_cons_zero]; rfl) (by kernel_rfl) (by kernel_rfl) (by kernel_rfl) (by exact fun _ _ _ h => h) (Or.inl ⟨by rfl, ?_⟩) hHeld ?_
        rotate_left
        · intro w hSw; (try dsimp only at hSw); go_simp; (try with_reducible rfl)
        try simp only [Act.put, List.setIfInBounds_toArray, List.set_cons_zero, List.set_cons_succ]
        refine wpAnyH_done (by kernel_rfl) ?_ _
        obtain ⟨⟨m0, m1, m2, m3, m4⟩, ⟨c0, c1, c2, c3⟩, ⟨r0, r1, r2, r3⟩, ⟨f0, f1, f2, f3⟩, ⟨g0, g1, g2, g3⟩, z1, z2⟩ := hb3.facts
        have HBL := Lib.hid hb3
        clear hT0 hT1 hT3 hb1 hb3
        go_wp2_with (first
          | (go_at_call 50; refine (clock_lit ms ml mt mc md 0 HCL.out _).mono ?_; rintro e w4 ⟨rfl, hk4⟩; have hb4 := HBL.out.no hk4; have hA6 := hA5.keep hk4 (fun f => f) (fun _ _ f => f); obtain ⟨⟨p0, p1, p2, p3, p4⟩, ⟨n0, n1, n2, n3⟩, ⟨q0, q1, q2, q3⟩, ⟨u0, u1, u2, u3⟩, ⟨v0, v1, v2, v3⟩, z3, z4⟩ := hb4.facts; have HB4 := Lib.hid hb4; clear hb4)
          | (go_at_call 60; refine (add_ok a v M 0 1 _ hA6 hn0).mono ?_; rintro e w5 ⟨rfl, hm5, hk5⟩; have hb5 := HB4.out.own hk5 ha HV.out; obtain ⟨⟨M0, M1, M2, M3, M4⟩, ⟨C0, C1, C2, C3⟩, ⟨R0, R1, R2, R3⟩, ⟨F0, F1, F2, F3⟩, ⟨G0, G1, G2, G3⟩, Z1, Z2⟩ := hb5.facts; clear hb5))
        refine bodyPost_ret (v := .agg #[.int .i64 1, .int .i64 9, .int .i64 x, .int .i64 st]) (by simp [results, Try.results38, go_sem, *]) rfl ⟨rfl, ?_, ?_⟩
        · repeat (first | (with_reducible exact hm5) | refine MemT.set (B := B) ?_ ha HV.out _ (by show B ≤ _; dsimp only; omega) _)
        · repeat (first | (with_reducible exact ((HK3.out.trans hk4).no.trans hk5)) | refine kset HB.out ?_ _ (by show B ≤ _; dsimp only; omega) _)
      · rw [if_neg (by decide)]
        unfold bumpV
        dsimp only
        go_enter Try.func38, Try.ntmps38
        go_wp2_with fail
        rw [HB.out]
        have hT0 := HBX.out.drew.two
        have hA3 := HA2.out.drew
        refine wp_region_held_drew (S := (fun w' => (w'.cell? ⟨B, 0, none⟩ = some (.int .i64 ms) ∧ w'.cell? ⟨B, 1, none⟩ = some (.int .i64 ml) ∧ w'.cell? ⟨B, 2, none⟩ = some (.int .i64 mt) ∧ w'.cell? ⟨B, 3, none⟩ = some (.int .i64 mc) ∧ w'.cell? ⟨B, 4, none⟩ = some (.int .i64 md)) ∧ (w'.cell? ⟨(B + 1), 0, none⟩ = some (.int .i64 1) ∧ w'.cell? ⟨(B + 1), 1, none⟩ = some (.int .i64 1) ∧ w'.cell? ⟨(B + 1), 2, none⟩ = some (.int .i64 x) ∧ w'.cell? ⟨(B + 1), 3, none⟩ = some (.int .i64 y)))) (by kernel_rfl) (hT0) (fun hHeld => ?_)
        refine wpAnyH_take (i := 0) (v := ?_) (by simp only [List.getElem?_toArray, List.getElem?_cons_succ, List.getElem?_cons_zero]; rfl) (by kernel_rfl) (by kernel_rfl) (by kernel_rfl) (by exact fun _ _ _ h => h) (Or.inl ⟨by rfl, ?_⟩) hHeld ?_
        rotate_left
        · intro w hSw; (try dsimp only at hSw); go_simp; (try with_reducible rfl)
        try simp only [Act.put, List.setIfInBounds_toArray, List.set_cons_zero, List.set_cons_succ]
        refine wpAnyH_ready (rs := [1]) (by kernel_rfl) (by simp) ?_
        refine AllReadyH.cons (by simp only [List.getElem?_toArray, List.getElem?_cons_succ, List.getElem?_cons_zero]; rfl) (fun kC hkC => ?_) AllReadyH.nil
        go_simp
        refine (may_any ⟨ms, ml, mt, mc, md⟩ _).mono ?_; rw [HMY.out]; rintro e w1 ⟨rfl, hk1⟩; have hb1 := HBX.out.drew.no hk1; have hT1 := hb1.two; have hA4 := hA3.keep hk1 (fun f => f) (fun _ _ f => f); have HK1 := Lib.hid (HK.out.drew.trans hk1)
        (try go_wp2_with fail)
        refine hkC.out _ _ (hT1) (fun hHeld => ?_)
        clear hkC kC
        try simp only [Act.put, List.setIfInBounds_toArray, List.set_cons_zero, List.set_cons_succ]
        refine wpAnyH_take (i := 2) (v := ?_) (by simp only [List.getElem?_toArray, List.getElem?_cons_succ, List.getElem?_cons_zero]; rfl) (by kernel_rfl) (by kernel_rfl) (by kernel_rfl) (by exact fun _ _ _ h => h) (Or.inl ⟨by rfl, ?_⟩) hHeld ?_
        rotate_left
        · intro w hSw; (try dsimp only at hSw); go_simp; (try with_reducible rfl)
        try simp only [Act.put, List.setIfInBounds_toArray, List.set_cons_zero, List.set_cons_succ]
        refine wpAnyH_take (i := 3) (v := ?_) (by simp only [List.getElem?_toArray, List.getElem?_cons_succ, List.getElem?_cons_zero]; rfl) (by kernel_rfl) (by kernel_rfl) (by kernel_rfl) (by exact fun _ _ _ h => h) (Or.inl ⟨by rfl, ?_⟩) hHeld ?_
        rotate_left
        · intro w hSw; (try dsimp only at hSw); go_simp; (try with_reducible rfl)
        try simp only [Act.put, List.setIfInBounds_toArray, List.set_cons_zero, List.set_cons_succ]
        refine wpAnyH_take (i := 4) (v := ?_) (by simp only [List.getElem?_toArray, List.getElem?_cons_succ, List.getElem?_cons_zero]; rfl) (by kernel_rfl) (by kernel_rfl) (by kernel_rfl) (by exact fun _ _ _ h => h) (Or.inl ⟨by rfl, ?_⟩) hHeld ?_
        rotate_left
        · intro w hSw; (try dsimp only at hSw); go_simp; (try with_reducible rfl)
        try simp only [Act.put, List.setIfInBounds_toArray, List.set_cons_zero, List.set_cons_succ]
        refine wpAnyH_take (i := 6) (v := ?_) (by simp only [List.getElem?_toArray, List.getElem?_cons_succ, List.getElem?_cons_zero]; rfl) (by kernel_rfl) (by kernel_rfl) (by kernel_rfl) (by exact fun _ _ _ h => h) (Or.inl ⟨by rfl, ?_⟩) hHeld ?_
        rotate_left
        · intro w hSw; (try dsimp only at hSw); go_simp; (try with_reducible rfl)
        try simp only [Act.put, List.setIfInBounds_toArray, List.set_cons_zero, List.set_cons_succ]
        refine wpAnyH_ready (rs := [5]) (by kernel_rfl) (by simp) ?_
        refine AllReadyH.cons (by simp only [List.getElem?_toArray, List.getElem?_cons_succ, List.getElem?_cons_zero]; rfl) (fun kC hkC => ?_) AllReadyH.nil
        go_simp
        refine (mlen_any a v M _ hA4).mono ?_; rintro e w2 ⟨rfl, rfl⟩
        (try go_wp2_with fail)
        refine hkC.out _ _ (hT1) (fun hHeld => ?_)
        clear hkC kC
        try simp only [Act.put, List.setIfInBounds_toArray, List.set_cons_zero, List.set_cons_succ]
        refine wpAnyH_ready (rs := [7]) (by kernel_rfl) (by simp) ?_
        refine AllReadyH.cons (by simp only [List.getElem?_toArray, List.getElem?_cons_succ, List.getElem?_cons_zero]; rfl) (fun kC hkC => ?_) AllReadyH.nil
        go_simp
        refine (size_lit ms ml mt mc md sz HSZ.out _).mono ?_; rintro e w3 ⟨rfl, hk3⟩; have hb3 := hb1.no hk3; have hT3 := hb3.two; have hA5 := hA4.keep hk3 (fun f => f) (fun _ _ f => f); have HK3 := Lib.hid (HK1.out.trans hk3)
        (try go_wp2_with fail)
        refine hkC.out _ _ (hT3) (fun hHeld => ?_)
        clear hkC kC
        try simp only [Act.put, List.setIfInBounds_toArray, List.set_cons_zero, List.set_cons_succ]
        refine wpAnyH_take (i := 8) (v := ?_) (by simp only [List.getElem?_toArray, List.getElem?_cons_succ, List.getElem?_cons_zero]; rfl) (by kernel_rfl) (by kernel_rfl) (by kernel_rfl) (by exact fun _ _ _ h => h) (Or.inl ⟨by rfl, ?_⟩) hHeld ?_
        rotate_left
        · intro w hSw; (try dsimp only at hSw); go_simp; (try with_reducible rfl)
        try simp only [Act.put, List.setIfInBounds_toArray, List.set_cons_zero, List.set_cons_succ]
        refine wpAnyH_take (i := 9) (v := ?_) (by simp only [List.getElem?_toArray, List.getElem?_cons_succ, List.getElem?_cons_zero]; rfl) (by kernel_rfl) (by kernel_rfl) (by kernel_rfl) (by exact fun _ _ _ h => h) (Or.inl ⟨by rfl, ?_⟩) hHeld ?_
        rotate_left
        · intro w hSw; (try dsimp only at hSw); go_simp; (try with_reducible rfl)
        try simp only [Act.put, List.setIfInBounds_toArray, List.set_cons_zero, List.set_cons_succ]
        refine wpAnyH_take (i := 10) (v := ?_) (by simp only [List.getElem?_toArray, List.getElem?_cons_succ, List.getElem?_cons_zero]; rfl) (by kernel_rfl) (by kernel_rfl) (by kernel_rfl) (by exact fun _ _ _ h => h) (Or.inl ⟨by rfl, ?_⟩) hHeld ?_
        rotate_left
        · intro w hSw; (try dsimp only at hSw); go_simp; (try with_reducible rfl)
        try simp only [Act.put, List.setIfInBounds_toArray, List.set_cons_zero, List.set_cons_succ]
        refine wpAnyH_take (i := 11) (v := ?_) (by simp only [List.getElem?_toArray, List.getElem?_cons_succ, List.getElem?_cons_zero]; rfl) (by kernel_rfl) (by kernel_rfl) (by kernel_rfl) (by exact fun _ _ _ h => h) (Or.inl ⟨by rfl, ?_⟩) hHeld ?_
        rotate_left
        · intro w hSw; (try dsimp only at hSw); go_simp; (try with_reducible rfl)
        try simp only [Act.put, List.setIfInBounds_toArray, List.set_cons_zero, List.set_cons_succ]
        refine wpAnyH_take (i := 12) (v := ?_) (by simp only [List.getElem?_toArray, List.getElem?_cons_succ, List.getElem?_cons_zero]; rfl) (by kernel_rfl) (by kernel_rfl) (by kernel_rfl) (by exact fun _ _ _ h => h) (Or.inl ⟨by rfl, ?_⟩) hHeld ?_
        rotate_left
        · intro w hSw; (try dsimp only at hSw); go_simp; (try with_reducible rfl)
        try simp only [Act.put, List.setIfInBounds_toArray, List.set_cons_zero, List.set_cons_succ]
        refine wpAnyH_take (i := 13) (v := ?_) (by simp only [List.getElem?_toArray, List.getElem?_cons_succ, List.getElem?_cons_zero]; rfl) (by kernel_rfl) (by kernel_rfl) (by kernel_rfl) (by exact fun _ _ _ h => h) (Or.inl ⟨by rfl, ?_⟩) hHeld ?_
        rotate_left
        · intro w hSw; (try dsimp only at hSw); go_simp; (try with_reducible rfl)
        try simp only [Act.put, List.setIfInBounds_toArray, List.set_cons_zero, List.set_cons_succ]
        refine wpAnyH_take (i := 14) (v := ?_) (by simp only [List.getElem?_toArray, List.getElem?_cons_succ, List.getElem?_cons_zero]; rfl) (by kernel_rfl) (by kernel_rfl) (by kernel_rfl) (by exact fun _ _ _ h => h) (Or.inl ⟨by rfl, ?_⟩) hHeld ?_
        rotate_left
        · intro w hSw; (try dsimp only at hSw); go_simp; (try with_reducible rfl)
        try simp only [Act.put, List.setIfInBounds_toArray, List.set_cons_zero, List.set_cons_succ]
        refine wpAnyH_take (i := 15) (v := ?_) (by simp only [List.getElem?_toArray, List.getElem?_cons_succ, List.getElem?_cons_zero]; rfl) (by kernel_rfl) (by kernel_rfl) (by kernel_rfl) (by exact fun _ _ _ h => h) (Or.inl ⟨by rfl, ?_⟩) hHeld ?_
        rotate_left
        · intro w hSw; (try dsimp only at hSw); go_simp; (try with_reducible rfl)
        try simp only [Act.put, List.setIfInBounds_toArray, List.set_cons_zero, List.set_cons_succ]
        refine wpAnyH_take (i := 16) (v := ?_) (by simp only [List.getElem?_toArray, List.getElem?_cons_succ, List.getElem?_cons_zero]; rfl) (by kernel_rfl) (by kernel_rfl) (by kernel_rfl) (by exact fun _ _ _ h => h) (Or.inl ⟨by rfl, ?_⟩) hHeld ?_
        rotate_left
        · intro w hSw; (try dsimp only at hSw); go_simp; (try with_reducible rfl)
        try simp only [Act.put, List.setIfInBounds_toArray, List.set_cons_zero, List.set_cons_succ]
        refine wpAnyH_take (i := 17) (v := ?_) (by simp only [List.getElem?_toArray, List.getElem?_cons_succ, List.getElem?_cons_zero]; rfl) (by kernel_rfl) (by kernel_rfl) (by kernel_rfl) (by exact fun _ _ _ h => h) (Or.inl ⟨by rfl, ?_⟩) hHeld ?_
        rotate_left
        · intro w hSw; (try dsimp only at hSw); go_simp; (try with_reducible rfl)
        try simp only [Act.put, List.setIfInBounds_toArray, List.set_cons_zero, List.set_cons_succ]
        refine wpAnyH_take (i := 18) (v := ?_) (by simp only [List.getElem?_toArray, List.getElem?_cons_succ, List.getElem?_cons_zero]; rfl) (by kernel_rfl) (by kernel_rfl) (by kernel_rfl) (by exact fun _ _ _ h => h) (Or.inl ⟨by rfl, ?_⟩) hHeld ?_
        rotate_left
        · intro w hSw; (try dsimp only at hSw); go_simp; (try with_reducible rfl)
        try simp only [Act.put, List.setIfInBounds_toArray, List.set_cons_zero, List.set_cons_succ]
        refine wpAnyH_take (i := 19) (v := ?_) (by simp only [List.getElem?_toArray, List.getElem?_cons_succ, List.getElem?_cons_zero]; rfl) (by kernel_rfl) (by kernel_rfl) (by kernel_rfl) (by exact fun _ _ _ h => h) (Or.inl ⟨by rfl, ?_⟩) hHeld ?_
        rotate_left
        · intro w hSw; (try dsimp only at hSw); go_simp; (try with_reducible rfl)
        try simp only [Act.put, List.setIfInBounds_toArray, List.set_cons_zero, List.set_cons_succ]
        refine wpAnyH_done (by kernel_rfl) ?_ _
        obtain ⟨⟨m0, m1, m2, m3, m4⟩, ⟨c0, c1, c2, c3⟩, ⟨r0, r1, r2, r3⟩, ⟨f0, f1, f2, f3⟩, ⟨g0, g1, g2, g3⟩, z1, z2⟩ := hb3.facts
        have HBL := Lib.hid hb3
        clear hT0 hT1 hT3 hb1 hb3
        go_wp2_with (go_at_call 50; refine (clock_lit ms ml mt mc md 0 HCL.out _).mono ?_; rintro e w4 ⟨rfl, hk4⟩; have hb4 := HBL.out.no hk4; have hA6 := hA5.keep hk4 (fun f => f) (fun _ _ f => f); obtain ⟨⟨p0, p1, p2, p3, p4⟩, ⟨n0, n1, n2, n3⟩, ⟨q0, q1, q2, q3⟩, ⟨u0, u1, u2, u3⟩, ⟨v0, v1, v2, v3⟩, z3, z4⟩ := hb4.facts; have HB4 := Lib.hid hb4; clear hb4)
        refine bodyPost_ret (v := .agg #[.int .i64 1, .int .i64 1, .int .i64 x, .int .i64 y]) (by simp [results, Try.results38, go_sem, *]) rfl ⟨rfl, ?_, ?_⟩
        · repeat (first | (with_reducible exact hA6) | refine MemT.set (B := B) ?_ ha HV.out _ (by show B ≤ _; dsimp only; omega) _)
        · repeat (first | (with_reducible exact ((HK3.out.trans hk4).no)) | refine kset HB.out ?_ _ (by show B ≤ _; dsimp only; omega) _)
    · rw [if_neg k1]
      by_cases k3 : k = 3
      · subst k3
        clear k1
        rw [if_pos rfl]
        rcases hs with rfl | rfl
        · rw [if_pos rfl]
          have d2' : decide ((0 : Int) < 0) = false := rfl
          obtain ⟨M', b', hl⟩ : ∃ M' b', lookB M 1 ⟨3, 0, x, y⟩ = (M', b') := ⟨_, _, rfl⟩
          obtain ⟨k', s', x', y'⟩ := b'
          rw [hl]
          have HL := Lib.hid hl
          clear hl
          unfold bumpV
          dsimp only
          go_enter Try.func38, Try.ntmps38
          go_wp2_with fail
          rw [HB.out]
          have hT0 := HBX.out.drew.two
          have hA3 := HA2.out.drew
          refine wp_region_held_drew (S := (fun w' => (w'.cell? ⟨B, 0, none⟩ = some (.int .i64 ms) ∧ w'.cell? ⟨B, 1, none⟩ = some (.int .i64 ml) ∧ w'.cell? ⟨B, 2, none⟩ = some (.int .i64 mt) ∧ w'.cell? ⟨B, 3, none⟩ = some (.int .i64 mc) ∧ w'.cell? ⟨B, 4, none⟩ = some (.int .i64 md)) ∧ (w'.cell? ⟨(B + 1), 0, none⟩ = some (.int .i64 3) ∧ w'.cell? ⟨(B + 1), 1, none⟩ = some (.int .i64 0) ∧ w'.cell? ⟨(B + 1), 2, none⟩ = some (.int .i64 x) ∧ w'.cell? ⟨(B + 1), 3, none⟩ = some (.int .i64 y)))) (by kernel_rfl) (hT0) (fun hHeld => ?_)
          refine wpAnyH_take (i := 0) (v := ?_) (by simp only [List.getElem?_toArray, List.getElem?_cons_succ, List.getElem?_cons_zero]; rfl) (by kernel_rfl) (by kernel_rfl) (by kernel_rfl) (by exact fun _ _ _ h => h) (Or.inl ⟨by rfl, ?_⟩) hHeld ?_
          rotate_left
          · intro w hSw; (try dsimp only at hSw); go_simp; (try with_reducible rfl)
          try simp only [Act.put, List.setIfInBounds_toArray, List.set_cons_zero, List.set_cons_succ]
          refine wpAnyH_ready (rs := [1]) (by kernel_rfl) (by simp) ?_
          refine AllReadyH.cons (by simp only [List.getElem?_toArray, List.getElem?_cons_succ, List.getElem?_cons_zero]; rfl) (fun kC hkC => ?_) AllReadyH.nil
          go_simp
          refine (may_any ⟨ms, ml, mt, mc, md⟩ _).mono ?_; rw [HMY.out]; rintro e w1 ⟨rfl, hk1⟩; have hb1 := HBX.out.drew.no hk1; have hT1 := hb1.two; have hA4 := hA3.keep hk1 (fun f => f) (fun _ _ f => f); have HK1 := Lib.hid (HK.out.drew.trans hk1)
          (try go_wp2_with fail)
          refine hkC.out _ _ (hT1) (fun hHeld => ?_)
          clear hkC kC
          try simp only [Act.put, List.setIfInBounds_toArray, List.set_cons_zero, List.set_cons_succ]
          refine wpAnyH_take (i := 2) (v := ?_) (by simp only [List.getElem?_toArray, List.getElem?_cons_succ, List.getElem?_cons_zero]; rfl) (by kernel_rfl) (by kernel_rfl) (by kernel_rfl) (by exact fun _ _ _ h => h) (Or.inl ⟨by rfl, ?_⟩) hHeld ?_
          rotate_left
          · intro w hSw; (try dsimp only at hSw); go_simp; (try with_reducible rfl)
          try simp only [Act.put, List.setIfInBounds_toArray, List.set_cons_zero, List.set_cons_succ]
          refine wpAnyH_take (i := 3) (v := ?_) (by simp only [List.getElem?_toArray, List.getElem?_cons_succ, List.getElem?_cons_zero]; rfl) (by kernel_rfl) (by kernel_rfl) (by kernel_rfl) (by exact fun _ _ _ h => h) (Or.inl ⟨by rfl, ?_⟩) hHeld ?_
          rotate_left
          · intro w hSw; (try dsimp only at hSw); go_simp; (try with_reducible rfl)
          try simp only [Act.put, List.setIfInBounds_toArray, List.set_cons_zero, List.set_cons_succ]
          refine wpAnyH_take (i := 4) (v := ?_) (by simp only [List.getElem?_toArray, List.getElem?_cons_succ, List.getElem?_cons_zero]; rfl) (by kernel_rfl) (by kernel_rfl) (by kernel_rfl) (by exact fun _ _ _ h => h) (Or.inl ⟨by rfl, ?_⟩) hHeld ?_
          rotate_left
          · intro w hSw; (try dsimp only at hSw); go_simp; (try with_reducible rfl)
          try simp only [Act.put, List.setIfInBounds_toArray, List.set_cons_zero, List.set_cons_succ]
          refine wpAnyH_take (i := 6) (v := ?_) (by simp only [List.getElem?_toArray, List.getElem?_cons_succ, List.getElem?_cons_zero]; rfl) (by kernel_rfl) (by kernel_rfl) (by kernel_rfl) (by exact fun _ _ _ h => h) (Or.inl ⟨by rfl, ?_⟩) hHeld ?_
          rotate_left
          · intro w hSw; (try dsimp only at hSw); go_simp; (try with_reducible rfl)
          try simp only [Act.put, List.setIfInBounds_toArray, List.set_cons_zero, List.set_cons_succ]
          refine wpAnyH_ready (rs := [5]) (by kernel_rfl) (by simp) ?_
          refine AllReadyH.cons (by simp only [List.getElem?_toArray, List.getElem?_cons_succ, List.getElem?_cons_zero]; rfl) (fun kC hkC => ?_) AllReadyH.nil
          go_simp
          refine (mlen_any a v M _ hA4).mono ?_; rintro e w2 ⟨rfl, rfl⟩
          (try go_wp2_with fail)
          refine hkC.out _ _ (hT1) (fun hHeld => ?_)
          clear hkC kC
          try simp only [Act.put, List.setIfInBounds_toArray, List.set_cons_zero, List.set_cons_succ]
          refine wpAnyH_ready (rs := [7]) (by kernel_rfl) (by simp) ?_
          refine AllReadyH.cons (by simp only [List.getElem?_toArray, List.getElem?_cons_succ, List.getElem?_cons_zero]; rfl) (fun kC hkC => ?_) AllReadyH.nil
          go_simp
          refine (size_lit ms ml mt mc md sz HSZ.out _).mono ?_; rintro e w3 ⟨rfl, hk3⟩; have hb3 := hb1.no hk3; have hT3 := hb3.two; have hA5 := hA4.keep hk3 (fun f => f) (fun _ _ f => f); have HK3 := Lib.hid (HK1.out.trans hk3)
          (try go_wp2_with fail)
          refine hkC.out _ _ (hT3) (fun hHeld => ?_)
          clear hkC kC
          try simp only [Act.put, List.setIfInBounds_toArray, List.set_cons_zero, List.set_cons_succ]
          refine wpAnyH_take (i := 8) (v := ?_) (by simp only [List.getElem?_toArray, List.getElem?_cons_succ, List.getElem?_cons_zero]; rfl) (by kernel_rfl) (by kernel_rfl) (by kernel_rfl) (by exact fun _ _ _ h => h) (Or.inl ⟨by rfl, ?_⟩) hHeld ?_
          rotate_left
          · intro w hSw; (try dsimp only at hSw); go_simp; (try with_reducible rfl)
          try simp only [Act.put, List.setIfInBounds_toArray, List.set_cons_zero, List.set_cons_succ]
          refine wpAnyH_take (i := 9) (v := ?_) (by simp only [List.getElem?_toArray, List.getElem?_cons_succ, List.getElem?_cons_zero]; rfl) (by kernel_rfl) (by kernel_rfl) (by kernel_rfl) (by exact fun _ _ _ h => h) (Or.inl ⟨by rfl, ?_⟩) hHeld ?_
          rotate_left
          · intro w hSw; (try dsimp only at hSw); go_simp; (try with_reducible rfl)
          try simp only [Act.put, List.setIfInBounds_toArray, List.set_cons_zero, List.set_cons_succ]
          refine wpAnyH_take (i := 10) (v := ?_) (by simp only [List.getElem?_toArray, List.getElem?_cons_succ, List.getElem?_cons_zero]; rfl) (by kernel_rfl) (by kernel_rfl) (by kernel_rfl) (by exact fun _ _ _ h => h) (Or.inl ⟨by rfl, ?_⟩) hHeld ?_
          rotate_left
          · intro w hSw; (try dsimp only at hSw); go_simp; (try with_reducible rfl)
          try simp only [Act.put, List.setIfInBounds_toArray, List.set_cons_zero, List.set_cons_succ]
          refine wpAnyH_take (i := 11) (v := ?_) (by simp only [List.getElem?_toArray, List.getElem?_cons_succ, List.getElem?_cons_zero]; rfl) (by kernel_rfl) (by kernel_rfl) (by kernel_rfl) (by exact fun _ _ _ h => h) (Or.inl ⟨by rfl, ?_⟩) hHeld ?_
          rotate_left
          · intro w hSw; (try dsimp only at hSw); go_simp; (try with_reducible rfl)
          try simp only [Act.put, List.setIfInBounds_toArray, List.set_cons_zero, List.set_cons_succ]
          refine wpAnyH_take (i := 12) (v := ?_) (by simp only [List.getElem?_toArray, List.getElem?_cons_succ, List.getElem?_cons_zero]; rfl) (by kernel_rfl) (by kernel_rfl) (by kernel_rfl) (by exact fun _ _ _ h => h) (Or.inl ⟨by rfl, ?_⟩) hHeld ?_
          rotate_left
          · intro w hSw; (try dsimp only at hSw); go_simp; (try with_reducible rfl)
          try simp only [Act.put, List.setIfInBounds_toArray, List.set_cons_zero, List.set_cons_succ]
          refine wpAnyH_take (i := 13) (v := ?_) (by simp only [List.getElem?_toArray, List.getElem?_cons_succ, List.getElem?_cons_zero]; rfl) (by kernel_rfl) (by kernel_rfl) (by kernel_rfl) (by exact fun _ _ _ h => h) (Or.inl ⟨by rfl, ?_⟩) hHeld ?_
          rotate_left
          · intro w hSw; (try dsimp only at hSw); go_simp; (try with_reducible rfl)
          try simp only [Act.put, List.setIfInBounds_toArray, List.set_cons_zero, List.set_cons_succ]
          refine wpAnyH_take (i := 14) (v := ?_) (by simp only [List.getElem?_toArray, List.getElem?_cons_succ, List.getElem?_cons_zero]; rfl) (by kernel_rfl) (by kernel_rfl) (by kernel_rfl) (by exact fun _ _ _ h => h) (Or.inl ⟨by rfl, ?_⟩) hHeld ?_
          rotate_left
          · intro w hSw; (try dsimp only at hSw); go_simp; (try with_reducible rfl)
          try simp only [Act.put, List.setIfInBounds_toArray, List.set_cons_zero, List.set_cons_succ]
          refine wpAnyH_take (i := 15) (v := ?_) (by simp only [List.getElem?_toArray, List.getElem?_cons_succ, List.getElem?_cons_zero]; rfl) (by kernel_rfl) (by kernel_rfl) (by kernel_rfl) (by exact fun _ _ _ h => h) (Or.inl ⟨by rfl, ?_⟩) hHeld ?_
          rotate_left
          · intro w hSw; (try dsimp only at hSw); go_simp; (try with_reducible rfl)
          try simp only [Act.put, List.setIfInBounds_toArray, List.set_cons_zero, List.set_cons_succ]
          refine wpAnyH_take (i := 16) (v := ?_) (by simp only [List.getElem?_toArray, List.getElem?_cons_succ, List.getElem?_cons_zero]; rfl) (by kernel_rfl) (by kernel_rfl) (by kernel_rfl) (by exact fun _ _ _ h => h) (Or.inl ⟨by rfl, ?_⟩) hHeld ?_
          rotate_left
          · intro w hSw; (try dsimp only at hSw); go_simp; (try with_reducible rfl)
          try simp only [Act.put, List.setIfInBounds_toArray, List.set_cons_zero, List.set_cons_succ]
          refine wpAnyH_take (i := 17) (v := ?_) (by simp only [List.getElem?_toArray, List.getElem?_cons_succ, List.getElem?_cons_zero]; rfl) (by kernel_rfl) (by kernel_rfl) (by kernel_rfl) (by exact fun _ _ _ h => h) (Or.inl ⟨by rfl, ?_⟩) hHeld ?_
          rotate_left
          · intro w hSw; (try dsimp only at hSw); go_simp; (try with_reducible rfl)
          try simp only [Act.put, List.setIfInBounds_toArray, List.set_cons_zero, List.set_cons_succ]
          refine wpAnyH_take (i := 18) (v := ?_) (by simp only [List.getElem?_toArray, List.getElem?_cons_succ, List.getElem?_cons_zero]; rfl) (by kernel_rfl) (by kernel_rfl) (by kernel_rfl) (by exact fun _ _ _ h => h) (Or.inl ⟨by rfl, ?_⟩) hHeld ?_
          rotate_left
          · intro w hSw; (try dsimp only at hSw); go_simp; (try with_reducible rfl)
          try simp only [Act.put, List.setIfInBounds_toArray, List.set_cons_zero, List.set_cons_succ]
          refine wpAnyH_take (i := 19) (v := ?_) (by simp only [List.getElem?_toArray, List.getElem?_cons_succ, List.getElem?_cons_zero]; rfl) (by kernel_rfl) (by kernel_rfl) (by kernel_rfl) (by exact fun _ _ _ h => h) (Or.inl ⟨by rfl, ?_⟩) hHeld ?_
          rotate_left
          · intro w hSw; (try dsimp only at hSw); go_simp; (try with_reducible rfl)
          try simp only [Act.put, List.setIfInBounds_toArray, List.set_cons_zero, List.set_cons_succ]
          refine wpAnyH_done (by kernel_rfl) ?_ _
          obtain ⟨⟨m0, m1, m2, m3, m4⟩, ⟨c0, c1, c2, c3⟩, ⟨r0, r1, r2, r3⟩, ⟨f0, f1, f2, f3⟩, ⟨g0, g1, g2, g3⟩, z1, z2⟩ := hb3.facts
          have HBL := Lib.hid hb3
          clear hT0 hT1 hT3 hb1 hb3
          go_wp2_with (first
            | (go_at_call 50; refine (clock_lit ms ml mt mc md 0 HCL.out _).mono ?_; rintro e w4 ⟨rfl, hk4⟩; have hb4 := HBL.out.no hk4; have hA6 := hA5.keep hk4 (fun f => f) (fun _ _ f => f); obtain ⟨⟨p0, p1, p2, p3, p4⟩, ⟨n0, n1, n2, n3⟩, ⟨q0, q1, q2, q3⟩, ⟨u0, u1, u2, u3⟩, ⟨v0, v1, v2, v3⟩, z3, z4⟩ := hb4.facts; have HB4 := Lib.hid hb4; clear hb4)
            | (go_at_call 36; refine (seq_lit ms ml mt mc md 1 HSQ.out _).mono ?_; rintro e w5 ⟨rfl, hk5⟩; have hb5 := HB4.out.no hk5; have hA7 := hA6.keep hk5 (fun f => f) (fun _ _ f => f); obtain ⟨⟨P0, P1, P2, P3, P4⟩, ⟨N0, N1, N2, N3⟩, ⟨Q0, Q1, Q2, Q3⟩, ⟨U0, U1, U2, U3⟩, ⟨V0, V1, V2, V3⟩, Z3, Z4⟩ := hb5.facts; have HB5 := Lib.hid hb5; clear hb5)
            | (go_at_call 75; refine (look_any 3 0 x y 1 a v M _ hA7 hn1).mono ?_; rw [HL.out]; unfold bumpV; dsimp only; rintro e w6 ⟨rfl, hm6, hk6⟩; have hb6 := HB5.out.own hk6 ha HV.out; obtain ⟨⟨M0, M1, M2, M3, M4⟩, ⟨C0, C1, C2, C3⟩, ⟨R0, R1, R2, R3⟩, ⟨F0, F1, F2, F3⟩, ⟨G0, G1, G2, G3⟩, Z1, Z2⟩ := hb6.facts; clear hb6))
          refine bodyPost_ret (v := .agg #[.int .i64 k', .int .i64 s', .int .i64 x', .int .i64 y']) (by simp [results, Try.results38, go_sem, *]) rfl ⟨rfl, ?_, ?_⟩
          · repeat (first | (with_reducible exact hm6) | refine MemT.set (B := B) ?_ ha HV.out _ (by show B ≤ _; dsimp only; omega) _)
          · repeat (first | (with_reducible exact (((HK3.out.trans hk4).trans hk5).no.trans hk6)) | refine kset HB.out ?_ _ (by show B ≤ _; dsimp only; omega) _)
        · rw [if_neg (by decide)]
          obtain ⟨M', b', hl⟩ : ∃ M' b', swapB M 1 ⟨3, 1, x, y⟩ = (M', b') := ⟨_, _, rfl⟩
          obtain ⟨k', s', x', y'⟩ := b'
          rw [hl]
          have HL := Lib.hid hl
          clear hl
          unfold bumpV
          dsimp only
          go_enter Try.func38, Try.ntmps38
          go_wp2_with fail
          rw [HB.out]
          have hT0 := HBX.out.drew.two
          have hA3 := HA2.out.drew
          refine wp_region_held_drew (S := (fun w' => (w'.cell? ⟨B, 0, none⟩ = some (.int .i64 ms) ∧ w'.cell? ⟨B, 1, none⟩ = some (.int .i64 ml) ∧ w'.cell? ⟨B, 2, none⟩ = some (.int .i64 mt) ∧ w'.cell? ⟨B, 3, none⟩ = some (.int .i64 mc) ∧ w'.cell? ⟨B, 4, none⟩ = some (.int .i64 md)) ∧ (w'.cell? ⟨(B + 1), 0, none⟩ = some (.int .i64 3) ∧ w'.cell? ⟨(B + 1), 1, none⟩ = some (.int .i64 1) ∧ w'.cell? ⟨(B + 1), 2, none⟩ = some (.int .i64 x) ∧ w'.cell? ⟨(B + 1), 3, none⟩ = some (.int .i64 y)))) (by kernel_rfl) (hT0) (fun hHeld => ?_)
          refine wpAnyH_take (i := 0) (v := ?_) (by simp only [List.getElem?_toArray, List.getElem?_cons_succ, List.getElem?_cons_zero]; rfl) (by kernel_rfl) (by kernel_rfl) (by kernel_rfl) (by exact fun _ _ _ h => h) (Or.inl ⟨by rfl, ?_⟩) hHeld ?_
          rotate_left
          · intro w hSw; (try dsimp only at hSw); go_simp; (try with_reducible rfl)
          try simp only [Act.put, List.setIfInBounds_toArray, List.set_cons_zero, List.set_cons_succ]
          refine wpAnyH_ready (rs := [1]) (by kernel_rfl) (by simp) ?_
          refine AllReadyH.cons (by simp only [List.getElem?_toArray, List.getElem?_cons_succ, List.getElem?_cons_zero]; rfl) (fun kC hkC => ?_) AllReadyH.nil
          go_simp
          refine (may_any ⟨ms, ml, mt, mc, md⟩ _).mono ?_; rw [HMY.out]; rintro e w1 ⟨rfl, hk1⟩; have hb1 := HBX.out.drew.no hk1; have hT1 := hb1.two; have hA4 := hA3.keep hk1 (fun f => f) (fun _ _ f => f); have HK1 := Lib.hid (HK.out.drew.trans hk1)
          (try go_wp2_with fail)
          refine hkC.out _ _ (hT1) (fun hHeld => ?_)
          clear hkC kC
          try simp only [Act.put, List.setIfInBounds_toArray, List.set_cons_zero, List.set_cons_succ]
          refine wpAnyH_take (i := 2) (v := ?_) (by simp only [List.getElem?_toArray, List.getElem?_cons_succ, List.getElem?_cons_zero]; rfl) (by kernel_rfl) (by kernel_rfl) (by kernel_rfl) (by exact fun _ _ _ h => h) (Or.inl ⟨by rfl, ?_⟩) hHeld ?_
          rotate_left
          · intro w hSw; (try dsimp only at hSw); go_simp; (try with_reducible rfl)
          try simp only [Act.put, List.setIfInBounds_toArray, List.set_cons_zero, List.set_cons_succ]
          refine wpAnyH_take (i := 3) (v := ?_) (by simp only [List.getElem?_toArray, List.getElem?_cons_succ, List.getElem?_cons_zero]; rfl) (by kernel_rfl) (by kernel_rfl) (by kernel_rfl) (by exact fun _ _ _ h => h) (Or.inl ⟨by rfl, ?_⟩) hHeld ?_
          rotate_left
          · intro w hSw; (try dsimp only at hSw); go_simp; (try with_reducible rfl)
          try simp only [Act.put, List.setIfInBounds_toArray, List.set_cons_zero, List.set_cons_succ]
          refine wpAnyH_take (i := 4) (v := ?_) (by simp only [List.getElem?_toArray, List.getElem?_cons_succ, List.getElem?_cons_zero]; rfl) (by kernel_rfl) (by kernel_rfl) (by kernel_rfl) (by exact fun _ _ _ h => h) (Or.inl ⟨by rfl, ?_⟩) hHeld ?_
          rotate_left
          · intro w hSw; (try dsimp only at hSw); go_simp; (try with_reducible rfl)
          try simp only [Act.put, List.setIfInBounds_toArray, List.set_cons_zero, List.set_cons_succ]
          refine wpAnyH_take (i := 6) (v := ?_) (by simp only [List.getElem?_toArray, List.getElem?_cons_succ, List.getElem?_cons_zero]; rfl) (by kernel_rfl) (by kernel_rfl) (by kernel_rfl) (by exact fun _ _ _ h => h) (Or.inl ⟨by rfl, ?_⟩) hHeld ?_
          rotate_left
          · intro w hSw; (try dsimp only at hSw); go_simp; (try with_reducible rfl)
          try simp only [Act.put, List.setIfInBounds_toArray, List.set_cons_zero, List.set_cons_succ]
          refine wpAnyH_ready (rs := [5]) (by kernel_rfl) (by simp) ?_
          refine AllReadyH.cons (by simp only [List.getElem?_toArray, List.getElem?_cons_succ, List.getElem?_cons_zero]; rfl) (fun kC hkC => ?_) AllReadyH.nil
          go_simp
          refine (mlen_any a v M _ hA4).mono ?_; rintro e w2 ⟨rfl, rfl⟩
          (try go_wp2_with fail)
          refine hkC.out _ _ (hT1) (fun hHeld => ?_)
          clear hkC kC
          try simp only [Act.put, List.setIfInBounds_toArray, List.set_cons_zero, List.set_cons_succ]
          refine wpAnyH_ready (rs := [7]) (by kernel_rfl) (by simp) ?_
          refine AllReadyH.cons (by simp only [List.getElem?_toArray, List.getElem?_cons_succ, List.getElem?_cons_zero]; rfl) (fun kC hkC => ?_) AllReadyH.nil
          go_simp
          refine (size_lit ms ml mt mc md sz HSZ.out _).mono ?_; rintro e w3 ⟨rfl, hk3⟩; have hb3 := hb1.no hk3; have hT3 := hb3.two; have hA5 := hA4.keep hk3 (fun f => f) (fun _ _ f => f); have HK3 := Lib.hid (HK1.out.trans hk3)
          (try go_wp2_with fail)
          refine hkC.out _ _ (hT3) (fun hHeld => ?_)
          clear hkC kC
          try simp only [Act.put, List.setIfInBounds_toArray, List.set_cons_zero, List.set_cons_succ]
          refine wpAnyH_take (i := 8) (v := ?_) (by simp only [List.getElem?_toArray, List.getElem?_cons_succ, List.getElem?_cons_zero]; rfl) (by kernel_rfl) (by kernel_rfl) (by kernel_rfl) (by exact fun _ _ _ h => h) (Or.inl ⟨by rfl, ?_⟩) hHeld ?_
          rotate_left
          · intro w hSw; (try dsimp only at hSw); go_simp; (try with_reducible rfl)
          try simp only [Act.put, List.setIfInBounds_toArray, List.set_cons_zero, List.set_cons_succ]
          refine wpAnyH_take (i := 9) (v := ?_) (by simp only [List.getElem?_toArray, List.getElem?_cons_succ, List.getElem?_cons_zero]; rfl) (by kernel_rfl) (by kernel_rfl) (by kernel_rfl) (by exact fun _ _ _ h => h) (Or.inl ⟨by rfl, ?_⟩) hHeld ?_
          rotate_left
          · intro w hSw; (try dsimp only at hSw); go_simp; (try with_reducible rfl)
          try simp only [Act.put, List.setIfInBounds_toArray, List.set_cons_zero, List.set_cons_succ]
          refine wpAnyH_take (i := 10) (v := ?_) (by simp only [List.getElem?_toArray, List.getElem?_cons_succ, List.getElem?_cons_zero]; rfl) (by kernel_rfl) (by kernel_rfl) (by kernel_rfl) (by exact fun _ _ _ h => h) (Or.inl ⟨by rfl, ?_⟩) hHeld ?_
          rotate_left
          · intro w hSw; (try dsimp only at hSw); go_simp; (try with_reducible rfl)
          try simp only [Act.put, List.setIfInBounds_toArray, List.set_cons_zero, List.set_cons_succ]
          refine wpAnyH_take (i := 11) (v := ?_) (by simp only [List.getElem?_toArray, List.getElem?_cons_succ, List.getElem?_cons_zero]; rfl) (by kernel_rfl) (by kernel_rfl) (by kernel_rfl) (by exact fun _ _ _ h => h) (Or.inl ⟨by rfl, ?_⟩) hHeld ?_
          rotate_left
          · intro w hSw; (try dsimp only at hSw); go_simp; (try with_reducible rfl)
          try simp only [Act.put, List.setIfInBounds_toArray, List.set_cons_zero, List.set_cons_succ]
          refine wpAnyH_take (i := 12) (v := ?_) (by simp only [List.getElem?_toArray, List.getElem?_cons_succ, List.getElem?_cons_zero]; rfl) (by kernel_rfl) (by kernel_rfl) (by kernel_rfl) (by exact fun _ _ _ h => h) (Or.inl ⟨by rfl, ?_⟩) hHeld ?_
          rotate_left
          · intro w hSw; (try dsimp only at hSw); go_simp; (try with_reducible rfl)
          try simp only [Act.put, List.setIfInBounds_toArray, List.set_cons_zero, List.set_cons_succ]
          refine wpAnyH_take (i := 13) (v := ?_) (by simp only [List.getElem?_toArray, List.getElem?_cons_succ, List.getElem?_cons_zero]; rfl) (by kernel_rfl) (by kernel_rfl) (by kernel_rfl) (by exact fun _ _ _ h => h) (Or.inl ⟨by rfl, ?_⟩) hHeld ?_
          rotate_left
          · intro w hSw; (try dsimp only at hSw); go_simp; (try with_reducible rfl)
          try simp only [Act.put, List.setIfInBounds_toArray, List.set_cons_zero, List.set_cons_succ]
          refine wpAnyH_take (i := 14) (v := ?_) (by simp only [List.getElem?_toArray, List.getElem?_cons_succ, List.getElem?_cons_zero]; rfl) (by kernel_rfl) (by kernel_rfl) (by kernel_rfl) (by exact fun _ _ _ h => h) (Or.inl ⟨by rfl, ?_⟩) hHeld ?_
          rotate_left
          · intro w hSw; (try dsimp only at hSw); go_simp; (try with_reducible rfl)
          try simp only [Act.put, List.setIfInBounds_toArray, List.set_cons_zero, List.set_cons_succ]
          refine wpAnyH_take (i := 15) (v := ?_) (by simp only [List.getElem?_toArray, List.getElem?_cons_succ, List.getElem?_cons_zero]; rfl) (by kernel_rfl) (by kernel_rfl) (by kernel_rfl) (by exact fun _ _ _ h => h) (Or.inl ⟨by rfl, ?_⟩) hHeld ?_
          rotate_left
          · intro w hSw; (try dsimp only at hSw); go_simp; (try with_reducible rfl)
          try simp only [Act.put, List.setIfInBounds_toArray, List.set_cons_zero, List.set_cons_succ]
          refine wpAnyH_take (i := 16) (v := ?_) (by simp only [List.getElem?_toArray, List.getElem?_cons_succ, List.getElem?_cons_zero]; rfl) (by kernel_rfl) (by kernel_rfl) (by kernel_rfl) (by exact fun _ _ _ h => h) (Or.inl ⟨by rfl, ?_⟩) hHeld ?_
          rotate_left
          · intro w hSw; (try dsimp only at hSw); go_simp; (try with_reducible rfl)
          try simp only [Act.put, List.setIfInBounds_toArray, List.set_cons_zero, List.set_cons_succ]
          refine wpAnyH_take (i := 17) (v := ?_) (by simp only [List.getElem?_toArray, List.getElem?_cons_succ, List.getElem?_cons_zero]; rfl) (by kernel_rfl) (by kernel_rfl) (by kernel_rfl) (by exact fun _ _ _ h => h) (Or.inl ⟨by rfl, ?_⟩) hHeld ?_
          rotate_left
          · intro w hSw; (try dsimp only at hSw); go_simp; (try with_reducible rfl)
          try simp only [Act.put, List.setIfInBounds_toArray, List.set_cons_zero, List.set_cons_succ]
          refine wpAnyH_take (i := 18) (v := ?_) (by simp only [List.getElem?_toArray, List.getElem?_cons_succ, List.getElem?_cons_zero]; rfl) (by kernel_rfl) (by kernel_rfl) (by kernel_rfl) (by exact fun _ _ _ h => h) (Or.inl ⟨by rfl, ?_⟩) hHeld ?_
          rotate_left
          · intro w hSw; (try dsimp only at hSw); go_simp; (try with_reducible rfl)
          try simp only [Act.put, List.setIfInBounds_toArray, List.set_cons_zero, List.set_cons_succ]
          refine wpAnyH_take (i := 19) (v := ?_) (by simp only [List.getElem?_toArray, List.getElem?_cons_succ, List.getElem?_cons_zero]; rfl) (by kernel_rfl) (by kernel_rfl) (by kernel_rfl) (by exact fun _ _ _ h => h) (Or.inl ⟨by rfl, ?_⟩) hHeld ?_
          rotate_left
          · intro w hSw; (try dsimp only at hSw); go_simp; (try with_reducible rfl)
          try simp only [Act.put, List.setIfInBounds_toArray, List.set_cons_zero, List.set_cons_succ]
          refine wpAnyH_done (by kernel_rfl) ?_ _
          obtain ⟨⟨m0, m1, m2, m3, m4⟩, ⟨c0, c1, c2, c3⟩, ⟨r0, r1, r2, r3⟩, ⟨f0, f1, f2, f3⟩, ⟨g0, g1, g2, g3⟩, z1, z2⟩ := hb3.facts
          have HBL := Lib.hid hb3
          clear hT0 hT1 hT3 hb1 hb3
          go_wp2_with (first
            | (go_at_call 50; refine (clock_lit ms ml mt mc md 0 HCL.out _).mono ?_; rintro e w4 ⟨rfl, hk4⟩; have hb4 := HBL.out.no hk4; have hA6 := hA5.keep hk4 (fun f => f) (fun _ _ f => f); obtain ⟨⟨p0, p1, p2, p3, p4⟩, ⟨n0, n1, n2, n3⟩, ⟨q0, q1, q2, q3⟩, ⟨u0, u1, u2, u3⟩, ⟨v0, v1, v2, v3⟩, z3, z4⟩ := hb4.facts; have HB4 := Lib.hid hb4; clear hb4)
            | (go_at_call 36; refine (seq_lit ms ml mt mc md 1 HSQ.out _).mono ?_; rintro e w5 ⟨rfl, hk5⟩; have hb5 := HB4.out.no hk5; have hA7 := hA6.keep hk5 (fun f => f) (fun _ _ f => f); obtain ⟨⟨P0, P1, P2, P3, P4⟩, ⟨N0, N1, N2, N3⟩, ⟨Q0, Q1, Q2, Q3⟩, ⟨U0, U1, U2, U3⟩, ⟨V0, V1, V2, V3⟩, Z3, Z4⟩ := hb5.facts; have HB5 := Lib.hid hb5; clear hb5)
            | (go_at_call 76; refine (swap_any 3 1 x y 1 a v M _ hA7 hn1).mono ?_; rw [HL.out]; unfold bumpV; dsimp only; rintro e w6 ⟨rfl, hm6, hk6⟩; have hb6 := HB5.out.own hk6 ha HV.out; obtain ⟨⟨M0, M1, M2, M3, M4⟩, ⟨C0, C1, C2, C3⟩, ⟨R0, R1, R2, R3⟩, ⟨F0, F1, F2, F3⟩, ⟨G0, G1, G2, G3⟩, Z1, Z2⟩ := hb6.facts; clear hb6))
          refine bodyPost_ret (v := .agg #[.int .i64 k', .int .i64 s', .int .i64 x', .int .i64 y']) (by simp [results, Try.results38, go_sem, *]) rfl ⟨rfl, ?_, ?_⟩
          · repeat (first | (with_reducible exact hm6) | refine MemT.set (B := B) ?_ ha HV.out _ (by show B ≤ _; dsimp only; omega) _)
          · repeat (first | (with_reducible exact (((HK3.out.trans hk4).trans hk5).no.trans hk6)) | refine kset HB.out ?_ _ (by show B ≤ _; dsimp only; omega) _)
      · rw [if_neg k3]
        by_cases k2 : k = 2
        · subst k2
          clear k1 k3
          rw [if_pos rfl]
          rcases hs with rfl | rfl
          · rw [if_pos rfl]
            have d2' : decide ((0 : Int) < 0) = false := rfl
            obtain ⟨M', b', hl⟩ : ∃ M' b', lookB M 0 ⟨2, 0, x, y⟩ = (M', b') := ⟨_, _, rfl⟩
            obtain ⟨k', s', x', y'⟩ := b'
            rw [hl]
            have HL := Lib.hid hl
            clear hl
            unfold bumpV
            dsimp only
            go_enter Try.func38, Try.ntmps38
            go_wp2_with fail
            rw [HB.out]
            have hT0 := HBX.out.drew.two
            have hA3 := HA2.out.drew
            refine wp_region_held_drew (S := (fun w' => (w'.cell? ⟨B, 0, none⟩ = some (.int .i64 ms) ∧ w'.cell? ⟨B, 1, none⟩ = some (.int .i64 ml) ∧ w'.cell? ⟨B, 2, none⟩ = some (.int .i64 mt) ∧ w'.cell? ⟨B, 3, none⟩ = some (.int .i64 mc) ∧ w'.cell? ⟨B, 4, none⟩ = some (.int .i64 md)) ∧ (w'.cell? ⟨(B + 1), 0, none⟩ = some (.int .i64 2) ∧ w'.cell? ⟨(B + 1), 1, none⟩ = some (.int .i64 0) ∧ w'.cell? ⟨(B + 1), 2, none⟩ = some (.int .i64 x) ∧ w'.cell? ⟨(B + 1), 3, none⟩ = some (.int .i64 y)))) (by kernel_rfl) (hT0) (fun hHeld => ?_)
            refine wpAnyH_take (i := 0) (v := ?_) (by simp only [List.getElem?_toArray, List.getElem?_cons_succ, List.getElem?_cons_zero]; rfl) (by kernel_rfl) (by kernel_rfl) (by kernel_rfl) (by exact fun _ _ _ h => h) (Or.inl ⟨by rfl, ?_⟩) hHeld ?_
            rotate_left
            · intro w hSw; (try dsimp only at hSw); go_simp; (try with_reducible rfl)
            try simp only [Act.put, List.setIfInBounds_toArray, List.set_cons_zero, List.set_cons_succ]
            refine wpAnyH_ready (rs := [1]) (by kernel_rfl) (by simp) ?_
            refine AllReadyH.cons (by simp only [List.getElem?_toArray, List.getElem?_cons_succ, List.getElem?_cons_zero]; rfl) (fun kC hkC => ?_) AllReadyH.nil
            go_simp
            refine (may_any ⟨ms, ml, mt, mc, md⟩ _).mono ?_; rw [HMY.out]; rintro e w1 ⟨rfl, hk1⟩; have hb1 := HBX.out.drew.no hk1; have hT1 := hb1.two; have hA4 := hA3.keep hk1 (fun f => f) (fun _ _ f => f); have HK1 := Lib.hid (HK.out.drew.trans hk1)
            (try go_wp2_with fail)
            refine hkC.out _ _ (hT1) (fun hHeld => ?_)
            clear hkC kC
            try simp only [Act.put, List.setIfInBounds_toArray, List.set_cons_zero, List.set_cons_succ]
            refine wpAnyH_take (i := 2) (v := ?_) (by simp only [List.getElem?_toArray, List.getElem?_cons_succ, List.getElem?_cons_zero]; rfl) (by kernel_rfl) (by kernel_rfl) (by kernel_rfl) (by exact fun _ _ _ h => h) (Or.inl ⟨by rfl, ?_⟩) hHeld ?_
            rotate_left
            · intro w hSw; (try dsimp only at hSw); go_simp; (try with_reducible rfl)
            try simp only [Act.put, List.setIfInBounds_toArray, List.set_cons_zero, List.set_cons_succ]
            refine wpAnyH_take (i := 3) (v := ?_) (by simp only [List.getElem?_toArray, List.getElem?_cons_succ, List.getElem?_cons_zero]; rfl) (by kernel_rfl) (by kernel_rfl) (by kernel_rfl) (by exact fun _ _ _ h => h) (Or.inl ⟨by rfl, ?_⟩) hHeld ?_
            rotate_left
            · intro w hSw; (try dsimp only at hSw); go_simp; (try with_reducible rfl)
            try simp only [Act.put, List.setIfInBounds_toArray, List.set_cons_zero, List.set_cons_succ]
            refine wpAnyH_take (i := 4) (v := ?_) (by simp only [List.getElem?_toArray, List.getElem?_cons_succ, List.getElem?_cons_zero]; rfl) (by kernel_rfl) (by kernel_rfl) (by kernel_rfl) (by exact fun _ _ _ h => h) (Or.inl ⟨by rfl, ?_⟩) hHeld ?_
            rotate_left
            · intro w hSw; (try dsimp only at hSw); go_simp; (try with_reducible rfl)
            try simp only [Act.put, List.setIfInBounds_toArray, List.set_cons_zero, List.set_cons_succ]
            refine wpAnyH_take (i := 6) (v := ?_) (by simp only [List.getElem?_toArray, List.getElem?_cons_succ, List.getElem?_cons_zero]; rfl) (by kernel_rfl) (by kernel_rfl) (by kernel_rfl) (by exact fun _ _ _ h => h) (Or.inl ⟨by rfl, ?_⟩) hHeld ?_
            rotate_left
            · intro w hSw; (try dsimp only at hSw); go_simp; (try with_reducible rfl)
            try simp only [Act.put, List.setIfInBounds_toArray, List.set_cons_zero, List.set_cons_succ]
            refine wpAnyH_ready (rs := [5]) (by kernel_rfl) (by simp) ?_
            refine AllReadyH.cons (by simp only [List.getElem?_toArray, List.getElem?_cons_succ, List.getElem?_cons_zero]; rfl) (fun kC hkC => ?_) AllReadyH.nil
            go_simp
            refine (mlen_any a v M _ hA4).mono ?_; rintro e w2 ⟨rfl, rfl⟩
            (try go_wp2_with fail)
            refine hkC.out _ _ (hT1) (fun hHeld => ?_)
            clear hkC kC
            try simp only [Act.put, List.setIfInBounds_toArray, List.set_cons_zero, List.set_cons_succ]
            refine wpAnyH_ready (rs := [7]) (by kernel_rfl) (by simp) ?_
            refine AllReadyH.cons (by simp only [List.getElem?_toArray, List.getElem?_cons_succ, List.getElem?_cons_zero]; rfl) (fun kC hkC => ?_) AllReadyH.nil
            go_simp
            refine (size_lit ms ml mt mc md sz HSZ.out _).mono ?_; rintro e w3 ⟨rfl, hk3⟩; have hb3 := hb1.no hk3; have hT3 := hb3.two; have hA5 := hA4.keep hk3 (fun f => f) (fun _ _ f => f); have HK3 := Lib.hid (HK1.out.trans hk3)
            (try go_wp2_with fail)
            refine hkC.out _ _ (hT3) (fun hHeld => ?_)
            clear hkC kC
            try simp only [Act.put, List.setIfInBounds_toArray, List.set_cons_zero, List.set_cons_succ]
            refine wpAnyH_take (i := 8) (v := ?_) (by simp only [List.getElem?_toArray, List.getElem?_cons_succ, List.getElem?_cons_zero]; rfl) (by kernel_rfl) (by kernel_rfl) (by kernel_rfl) (by exact fun _ _ _ h => h) (Or.inl ⟨by rfl, ?_⟩) hHeld ?_
            rotate_left
            · intro w hSw; (try dsimp only at hSw); go_simp; (try with_reducible rfl)
            try simp only [Act.put, List.setIfInBounds_toArray, List.set_cons_zero, List.set_cons_succ]
            refine wpAnyH_take (i := 9) (v := ?_) (by simp only [List.getElem?_toArray, List.getElem?_cons_succ, List.getElem?_cons_zero]; rfl) (by kernel_rfl) (by kernel_rfl) (by kernel_rfl) (by exact fun _ _ _ h => h) (Or.inl ⟨by rfl, ?_⟩) hHeld ?_
            rotate_left
            · intro w hSw; (try dsimp only at hSw); go_simp; (try with_reducible rfl)
            try simp only [Act.put, List.setIfInBounds_toArray, List.set_cons_zero, List.set_cons_succ]
            refine wpAnyH_take (i := 10) (v := ?_) (by simp only [List.getElem?_toArray, List.getElem?_cons_succ, List.getElem?_cons_zero]; rfl) (by kernel_rfl) (by kernel_rfl) (by kernel_rfl) (by exact fun _ _ _ h => h) (Or.inl ⟨by rfl, ?_⟩) hHeld ?_
            rotate_left
            · intro w hSw; (try dsimp only at hSw); go_simp; (try with_reducible rfl)
            try simp only [Act.put, List.setIfInBounds_toArray, List.set_cons_zero, List.set_cons_succ]
            refine wpAnyH_take (i := 11) (v := ?_) (by simp only [List.getElem?_toArray, List.getElem?_cons_succ, List.getElem?_cons_zero]; rfl) (by kernel_rfl) (by kernel_rfl) (by kernel_rfl) (by exact fun _ _ _ h => h) (Or.inl ⟨by rfl, ?_⟩) hHeld ?_
            rotate_left
            · intro w hSw; (try dsimp only at hSw); go_simp; (try with_reducible rfl)
            try simp only [Act.put, List.setIfInBounds_toArray, List.set_cons_zero, List.set_cons_succ]
            refine wpAnyH_take (i := 12) (v := ?_) (by simp only [List.getElem?_toArray, List.getElem?_cons_succ, List.getElem?_cons_zero]; rfl) (by kernel_rfl) (by kernel_rfl) (by kernel_rfl) (by exact fun _ _ _ h => h) (Or.inl ⟨by rfl, ?_⟩) hHeld ?_
            rotate_left
            · intro w hSw; (try dsimp only at hSw); go_simp; (try with_reducible rfl)
            try simp only [Act.put, List.setIfInBounds_toArray, List.set_cons_zero, List.set_cons_succ]
            refine wpAnyH_take (i := 13) (v := ?_) (by simp only [List.getElem?_toArray, List.getElem?_cons_succ, List.getElem?_cons_zero]; rfl) (by kernel_rfl) (by kernel_rfl) (by kernel_rfl) (by exact fun _ _ _ h => h) (Or.inl ⟨by rfl, ?_⟩) hHeld ?_
            rotate_left
            · intro w hSw; (try dsimp only at hSw); go_simp; (try with_reducible rfl)
            try simp only [Act.put, List.setIfInBounds_toArray, List.set_cons_zero, List.set_cons_succ]
            refine wpAnyH_take (i := 14) (v := ?_) (by simp only [List.getElem?_toArray, List.getElem?_cons_succ, List.getElem?_cons_zero]; rfl) (by kernel_rfl) (by kernel_rfl) (by kernel_rfl) (by exact fun _ _ _ h => h) (Or.inl ⟨by rfl, ?_⟩) hHeld ?_
            rotate_left
            · intro w hSw; (try dsimp only at hSw); go_simp; (try with_reducible rfl)
            try simp only [Act.put, List.setIfInBounds_toArray, List.set_cons_zero, List.set_cons_succ]
            refine wpAnyH_take (i := 15) (v := ?_) (by simp only [List.getElem?_toArray, List.getElem?_cons_succ, List.getElem?_cons_zero]; rfl) (by kernel_rfl) (by kernel_rfl) (by kernel_rfl) (by exact fun _ _ _ h => h) (Or.inl ⟨by rfl, ?_⟩) hHeld ?_
            rotate_left
            · intro w hSw; (try dsimp only at hSw); go_simp; (try with_reducible rfl)
            try simp only [Act.put, List.setIfInBounds_toArray, List.set_cons_zero, List.set_cons_succ]
            refine wpAnyH_take (i := 16) (v := ?_) (by simp only [List.getElem?_toArray, List.getElem?_cons_succ, List.getElem?_cons_zero]; rfl) (by kernel_rfl) (by kernel_rfl) (by kernel_rfl) (by exact fun _ _ _ h => h) (Or.inl ⟨by rfl, ?_⟩) hHeld ?_
            rotate_left
            · intro w hSw; (try dsimp only at hSw); go_simp; (try with_reducible rfl)
            try simp only [Act.put, List.setIfInBounds_toArray, List.set_cons_zero, List.set_cons_succ]
            refine wpAnyH_take (i := 17) (v := ?_) (by simp only [List.getElem?_toArray, List.getElem?_cons_succ, List.getElem?_cons_zero]; rfl) (by kernel_rfl) (by kernel_rfl) (by kernel_rfl) (by exact fun _ _ _ h => h) (Or.inl ⟨by rfl, ?_⟩) hHeld ?_
            rotate_left
            · intro w hSw; (try dsimp only at hSw); go_simp; (try with_reducible rfl)
            try simp only [Act.put, List.setIfInBounds_toArray, List.set_cons_zero, List.set_cons_succ]
            refine wpAnyH_take (i := 18) (v := ?_) (by simp only [List.getElem?_toArray, List.getElem?_cons_succ, List.getElem?_cons_zero]; rfl) (by kernel_rfl) (by kernel_rfl) (by kernel_rfl) (by exact fun _ _ _ h => h) (Or.inl ⟨by rfl, ?_⟩) hHeld ?_
            rotate_left
            · intro w hSw; (try dsimp only at hSw); go_simp; (try with_reducible rfl)
            try simp only [Act.put, List.setIfInBounds_toArray, List.set_cons_zero, List.set_cons_succ]
            refine wpAnyH_take (i := 19) (v := ?_) (by simp only [List.getElem?_toArray, List.getElem?_cons_succ, List.getElem?_cons_zero]; rfl) (by kernel_rfl) (by kernel_rfl) (by kernel_rfl) (by exact fun _ _ _ h => h) (Or.inl ⟨by rfl, ?_⟩) hHeld ?_
            rotate_left
            · intro w hSw; (try dsimp only at hSw); go_simp; (try with_reducible rfl)
            try simp only [Act.put, List.setIfInBounds_toArray, List.set_cons_zero, List.set_cons_succ]
            refine wpAnyH_done (by kernel_rfl) ?_ _
            obtain ⟨⟨m0, m1, m2, m3, m4⟩, ⟨c0, c1, c2, c3⟩, ⟨r0, r1, r2, r3⟩, ⟨f0, f1, f2, f3⟩, ⟨g0, g1, g2, g3⟩, z1, z2⟩ := hb3.facts
            have HBL := Lib.hid hb3
            clear hT0 hT1 hT3 hb1 hb3
            go_wp2_with (first
              | (go_at_call 50; refine (clock_lit ms ml mt mc md 0 HCL.out _).mono ?_; rintro e w4 ⟨rfl, hk4⟩; have hb4 := HBL.out.no hk4; have hA6 := hA5.keep hk4 (fun f => f) (fun _ _ f => f); obtain ⟨⟨p0, p1, p2, p3, p4⟩, ⟨n0, n1, n2, n3⟩, ⟨q0, q1, q2, q3⟩, ⟨u0, u1, u2, u3⟩, ⟨v0, v1, v2, v3⟩, z3, z4⟩ := hb4.facts; have HB4 := Lib.hid hb4; clear hb4)
              | (go_at_call 75; refine (look_any 2 0 x y 0 a v M _ hA6 hn0).mono ?_; rw [HL.out]; unfold bumpV; dsimp only; rintro e w6 ⟨rfl, hm6, hk6⟩; have hb6 := HB4.out.own hk6 ha HV.out; obtain ⟨⟨M0, M1, M2, M3, M4⟩, ⟨C0, C1, C2, C3⟩, ⟨R0, R1, R2, R3⟩, ⟨F0, F1, F2, F3⟩, ⟨G0, G1, G2, G3⟩, Z1, Z2⟩ := hb6.facts; clear hb6))
            refine bodyPost_ret (v := .agg #[.int .i64 k', .int .i64 s', .int .i64 x', .int .i64 y']) (by simp [results, Try.results38, go_sem, *]) rfl ⟨rfl, ?_, ?_⟩
            · repeat (first | (with_reducible exact hm6) | refine MemT.set (B := B) ?_ ha HV.out _ (by show B ≤ _; dsimp only; omega) _)
            · repeat (first | (with_reducible exact ((HK3.out.trans hk4).no.trans hk6)) | refine kset HB.out ?_ _ (by show B ≤ _; dsimp only; omega) _)
          · rw [if_neg (by decide)]
            obtain ⟨M', b', hl⟩ : ∃ M' b', swapB M 0 ⟨2, 1, x, y⟩ = (M', b') := ⟨_, _, rfl⟩
            obtain ⟨k', s', x', y'⟩ := b'
            rw [hl]
            have HL := Lib.hid hl
            clear hl
            unfold bumpV
            dsimp only
            go_enter Try.func38, Try.ntmps38
            go_wp2_with fail
            rw [HB.out]
            have hT0 := HBX.out.drew.two
            have hA3 := HA2.out.drew
            refine wp_region_held_drew (S := (fun w' => (w'.cell? ⟨B, 0, none⟩ = some (.int .i64 ms) ∧ w'.cell? ⟨B, 1, none⟩ = some (.int .i64 ml) ∧ w'.cell? ⟨B, 2, none⟩ = some (.int .i64 mt) ∧ w'.cell? ⟨B, 3, none⟩ = some (.int .i64 mc) ∧ w'.cell? ⟨B, 4, none⟩ = some (.int .i64 md)) ∧ (w'.cell? ⟨(B + 1), 0, none⟩ = some (.int .i64 2) ∧ w'.cell? ⟨(B + 1), 1, none⟩ = some (.int .i64 1) ∧ w'.cell? ⟨(B + 1), 2, none⟩ = some (.int .i64 x) ∧ w'.cell? ⟨(B + 1), 3, none⟩ = some (.int .i64 y)))) (by kernel_rfl) (hT0) (fun hHeld => ?_)
            refine wpAnyH_take (i := 0) (v := ?_) (by simp only [List.getElem?_toArray, List.getElem?_cons_succ, List.getElem?_cons_zero]; rfl) (by kernel_rfl) (by kernel_rfl) (by kernel_rfl) (by exact fun _ _ _ h => h) (Or.inl ⟨by rfl, ?_⟩) hHeld ?_
            rotate_left
            · intro w hSw; (try dsimp only at hSw); go_simp; (try with_reducible rfl)
            try simp only [Act.put, List.setIfInBounds_toArray, List.set_cons_zero, List.set_cons_succ]
            refine wpAnyH_ready (rs := [1]) (by kernel_rfl) (by simp) ?_
            refine AllReadyH.cons (by simp only [List.getElem?_toArray, List.getElem?_cons_succ, List.getElem?_cons_zero]; rfl) (fun kC hkC => ?_) AllReadyH.nil
            go_simp
            refine (may_any ⟨ms, ml, mt, mc, md⟩ _).mono ?_; rw [HMY.out]; rintro e w1 ⟨rfl, hk1⟩; have hb1 := HBX.out.drew.no hk1; have hT1 := hb1.two; have hA4 := hA3.keep hk1 (fun f => f) (fun _ _ f => f); have HK1 := Lib.hid (HK.out.drew.trans hk1)
            (try go_wp2_with fail)
            refine hkC.out _ _ (hT1) (fun hHeld => ?_)
            clear hkC kC
            try simp only [Act.put, List.setIfInBounds_toArray, List.set_cons_zero, List.set_cons_succ]
            refine wpAnyH_take (i := 2) (v := ?_) (by simp only [List.getElem?_toArray, List.getElem?_cons_succ, List.getElem?_cons_zero]; rfl) (by kernel_rfl) (by kernel_rfl) (by kernel_rfl) (by exact fun _ _ _ h => h) (Or.inl ⟨by rfl, ?_⟩) hHeld ?_
            rotate_left
            · intro w hSw; (try dsimp only at hSw); go_simp; (try with_reducible rfl)
            try simp only [Act.put, List.setIfInBounds_toArray, List.set_cons_zero, List.set_cons_succ]
            refine wpAnyH_take (i := 3) (v := ?_) (by simp only [List.getElem?_toArray, List.getElem?_cons_succ, List.getElem?_cons_zero]; rfl) (by kernel_rfl) (by kernel_rfl) (by kernel_rfl) (by exact fun _ _ _ h => h) (Or.inl ⟨by rfl, ?_⟩) hHeld ?_
            rotate_left
            · intro w hSw; (try dsimp only at hSw); go_simp; (try with_reducible rfl)
            try simp only [Act.put, List.setIfInBounds_toArray, List.set_cons_zero, List.set_cons_succ]
            refine wpAnyH_take (i := 4) (v := ?_) (by simp only [List.getElem?_toArray, List.getElem?_cons_succ, List.getElem?_cons_zero]; rfl) (by kernel_rfl) (by kernel_rfl) (by kernel_rfl) (by exact fun _ _ _ h => h) (Or.inl ⟨by rfl, ?_⟩) hHeld ?_
            rotate_left
            · intro w hSw; (try dsimp only at hSw); go_simp; (try with_reducible rfl)
            try simp only [Act.put, List.setIfInBounds_toArray, List.set_cons_zero, List.set_cons_succ]
            refine wpAnyH_take (i := 6) (v := ?_) (by simp only [List.getElem?_toArray, List.getElem?_cons_succ, List.getElem?_cons_zero]; rfl) (by kernel_rfl) (by kernel_rfl) (by kernel_rfl) (by exact fun _ _ _ h => h) (Or.inl ⟨by rfl, ?_⟩) hHeld ?_
            rotate_left
            · intro w hSw; (try dsimp only at hSw); go_simp; (try with_reducible rfl)
            try simp only [Act.put, List.setIfInBounds_toArray, List.set_cons_zero, List.set_cons_succ]
            refine wpAnyH_ready (rs := [5]) (by kernel_rfl) (by simp) ?_
            refine AllReadyH.cons (by simp only [List.getElem?_toArray, List.getElem?_cons_succ, List.getElem?_cons_zero]; rfl) (fun kC hkC => ?_) AllReadyH.nil
            go_simp
            refine (mlen_any a v M _ hA4).mono ?_; rintro e w2 ⟨rfl, rfl⟩
            (try go_wp2_with fail)
            refine hkC.out _ _ (hT1) (fun hHeld => ?_)
            clear hkC kC
            try simp only [Act.put, List.setIfInBounds_toArray, List.set_cons_zero, List.set_cons_succ]
            refine wpAnyH_ready (rs := [7]) (by kernel_rfl) (by simp) ?_
            refine AllReadyH.cons (by simp only [List.getElem?_toArray, List.getElem?_cons_succ, List.getElem?_cons_zero]; rfl) (fun kC hkC => ?_) AllReadyH.nil
            go_simp
            refine (size_lit ms ml mt mc md sz HSZ.out _).mono ?_; rintro e w3 ⟨rfl, hk3⟩; have hb3 := hb1.no hk3; have hT3 := hb3.two; have hA5 := hA4.keep hk3 (fun f => f) (fun _ _ f => f); have HK3 := Lib.hid (HK1.out.trans hk3)
            (try go_wp2_with fail)
            refine hkC.out _ _ (hT3) (fun hHeld => ?_)
            clear hkC kC
            try simp only [Act.put, List.setIfInBounds_toArray, List.set_cons_zero, List.set_cons_succ]
            refine wpAnyH_take (i := 8) (v := ?_) (by simp only [List.getElem?_toArray, List.getElem?_cons_succ, List.getElem?_cons_zero]; rfl) (by kernel_rfl) (by kernel_rfl) (by kernel_rfl) (by exact fun _ _ _ h => h) (Or.inl ⟨by rfl, ?_⟩) hHeld ?_
            rotate_left
            · intro w hSw; (try dsimp only at hSw); go_simp; (try with_reducible rfl)
            try simp only [Act.put, List.setIfInBounds_toArray, List.set_cons_zero, List.set_cons_succ]
            refine wpAnyH_take (i := 9) (v := ?_) (by simp only [List.getElem?_toArray, List.getElem?_cons_succ, List.getElem?_cons_zero]; rfl) (by kernel_rfl) (by kernel_rfl) (by kernel_rfl) (by exact fun _ _ _ h => h) (Or.inl ⟨by rfl, ?_⟩) hHeld ?_
            rotate_left
            · intro w hSw; (try dsimp only at hSw); go_simp; (try with_reducible rfl)
            try simp only [Act.put, List.setIfInBounds_toArray, List.set_cons_zero, List.set_cons_succ]
            refine wpAnyH_take (i := 10) (v := ?_) (by simp only [List.getElem?_toArray, List.getElem?_cons_succ, List.getElem?_cons_zero]; rfl) (by kernel_rfl) (by kernel_rfl) (by kernel_rfl) (by exact fun _ _ _ h => h) (Or.inl ⟨by rfl, ?_⟩) hHeld ?_
            rotate_left
            · intro w hSw; (try dsimp only at hSw); go_simp; (try with_reducible rfl)
            try simp only [Act.put, List.setIfInBounds_toArray, List.set_cons_zero, List.set_cons_succ]
            refine wpAnyH_take (i := 11) (v := ?_) (by simp only [List.getElem?_toArray, List.getElem?_cons_succ, List.getElem?_cons_zero]; rfl) (by kernel_rfl) (by kernel_rfl) (by kernel_rfl) (by exact fun _ _ _ h => h) (Or.inl ⟨by rfl, ?_⟩) hHeld ?_
            rotate_left
            · intro w hSw; (try dsimp only at hSw); go_simp; (try with_reducible rfl)
            try simp only [Act.put, List.setIfInBounds_toArray, List.set_cons_zero, List.set_cons_succ]
            refine wpAnyH_take (i := 12) (v := ?_) (by simp only [List.getElem?_toArray, List.getElem?_cons_succ, List.getElem?_cons_zero]; rfl) (by kernel_rfl) (by kernel_rfl) (by kernel_rfl) (by exact fun _ _ _ h => h) (Or.inl ⟨by rfl, ?_⟩) hHeld ?_
            rotate_left
            · intro w hSw; (try dsimp only at hSw); go_simp; (try with_reducible rfl)
            try simp only [Act.put, List.setIfInBounds_toArray, List.set_cons_zero, List.set_cons_succ]
            refine wpAnyH_take (i := 13) (v := ?_) (by simp only [List.getElem?_toArray, List.getElem?_cons_succ, List.getElem?_cons_zero]; rfl) (by kernel_rfl) (by kernel_rfl) (by kernel_rfl) (by exact fun _ _ _ h => h) (Or.inl ⟨by rfl, ?_⟩) hHeld ?_
            rotate_left
            · intro w hSw; (try dsimp only at hSw); go_simp; (try with_reducible rfl)
            try simp only [Act.put, List.setIfInBounds_toArray, List.set_cons_zero, List.set_cons_succ]
            refine wpAnyH_take (i := 14) (v := ?_) (by simp only [List.getElem?_toArray, List.getElem?_cons_succ, List.getElem?_cons_zero]; rfl) (by kernel_rfl) (by kernel_rfl) (by kernel_rfl) (by exact fun _ _ _ h => h) (Or.inl ⟨by rfl, ?_⟩) hHeld ?_
            rotate_left
            · intro w hSw; (try dsimp only at hSw); go_simp; (try with_reducible rfl)
            try simp only [Act.put, List.setIfInBounds_toArray, List.set_cons_zero, List.set_cons_succ]
            refine wpAnyH_take (i := 15) (v := ?_) (by simp only [List.getElem?_toArray, List.getElem?_cons_succ, List.getElem?_cons_zero]; rfl) (by kernel_rfl) (by kernel_rfl) (by kernel_rfl) (by exact fun _ _ _ h => h) (Or.inl ⟨by rfl, ?_⟩) hHeld ?_
            rotate_left
            · intro w hSw; (try dsimp only at hSw); go_simp; (try with_reducible rfl)
            try simp only [Act.put, List.setIfInBounds_toArray, List.set_cons_zero, List.set_cons_succ]
            refine wpAnyH_take (i := 16) (v := ?_) (by simp only [List.getElem?_toArray, List.getElem?_cons_succ, List.getElem?_cons_zero]; rfl) (by kernel_rfl) (by kernel_rfl) (by kernel_rfl) (by exact fun _ _ _ h => h) (Or.inl ⟨by rfl, ?_⟩) hHeld ?_
            rotate_left
            · intro w hSw; (try dsimp only at hSw); go_simp; (try with_reducible rfl)
            try simp only [Act.put, List.setIfInBounds_toArray, List.set_cons_zero, List.set_cons_succ]
            refine wpAnyH_take (i := 17) (v := ?_) (by simp only [List.getElem?_toArray, List.getElem?_cons_succ, List.getElem?_cons_zero]; rfl) (by kernel_rfl) (by kernel_rfl) (by kernel_rfl) (by exact fun _ _ _ h => h) (Or.inl ⟨by rfl, ?_⟩) hHeld ?_
            rotate_left
            · intro w hSw; (try dsimp only at hSw); go_simp; (try with_reducible rfl)
            try simp only [Act.put, List.setIfInBounds_toArray, List.set_cons_zero, List.set_cons_succ]
            refine wpAnyH_take (i := 18) (v := ?_) (by simp only [List.getElem?_toArray, List.getElem?_cons_succ, List.getElem?_cons_zero]; rfl) (by kernel_rfl) (by kernel_rfl) (by kernel_rfl) (by exact fun _ _ _ h => h) (Or.inl ⟨by rfl, ?_⟩) hHeld ?_
            rotate_left
            · intro w hSw; (try dsimp only at hSw); go_simp; (try with_reducible rfl)
            try simp only [Act.put, List.setIfInBounds_toArray, List.set_cons_zero, List.set_cons_succ]
            refine wpAnyH_take (i := 19) (v := ?_) (by simp only [List.getElem?_toArray, List.getElem?_cons_succ, List.getElem?_cons_zero]; rfl) (by kernel_rfl) (by kernel_rfl) (by kernel_rfl) (by exact fun _ _ _ h => h) (Or.inl ⟨by rfl, ?_⟩) hHeld ?_
            rotate_left
            · intro w hSw; (try dsimp only at hSw); go_simp; (try with_reducible rfl)
            try simp only [Act.put, List.setIfInBounds_toArray, List.set_cons_zero, List.set_cons_succ]
            refine wpAnyH_done (by kernel_rfl) ?_ _
            obtain ⟨⟨m0, m1, m2, m3, m4⟩, ⟨c0, c1, c2, c3⟩, ⟨r0, r1, r2, r3⟩, ⟨f0, f1, f2, f3⟩, ⟨g0, g1, g2, g3⟩, z1, z2⟩ := hb3.facts
            have HBL := Lib.hid hb3
            clear hT0 hT1 hT3 hb1 hb3
            go_wp2_with (first
              | (go_at_call 50; refine (clock_lit ms ml mt mc md 0 HCL.out _).mono ?_; rintro e w4 ⟨rfl, hk4⟩; have hb4 := HBL.out.no hk4; have hA6 := hA5.keep hk4 (fun f => f) (fun _ _ f => f); obtain ⟨⟨p0, p1, p2, p3, p4⟩, ⟨n0, n1, n2, n3⟩, ⟨q0, q1, q2, q3⟩, ⟨u0, u1, u2, u3⟩, ⟨v0, v1, v2, v3⟩, z3, z4⟩ := hb4.facts; have HB4 := Lib.hid hb4; clear hb4)
              | (go_at_call 76; refine (swap_any 2 1 x y 0 a v M _ hA6 hn0).mono ?_; rw [HL.out]; unfold bumpV; dsimp only; rintro e w6 ⟨rfl, hm6, hk6⟩; have hb6 := HB4.out.own hk6 ha HV.out; obtain ⟨⟨M0, M1, M2, M3, M4⟩, ⟨C0, C1, C2, C3⟩, ⟨R0, R1, R2, R3⟩, ⟨F0, F1, F2, F3⟩, ⟨G0, G1, G2, G3⟩, Z1, Z2⟩ := hb6.facts; clear hb6))
            refine bodyPost_ret (v := .agg #[.int .i64 k', .int .i64 s', .int .i64 x', .int .i64 y']) (by simp [results, Try.results38, go_sem, *]) rfl ⟨rfl, ?_, ?_⟩
            · repeat (first | (with_reducible exact hm6) | refine MemT.set (B := B) ?_ ha HV.out _ (by show B ≤ _; dsimp only; omega) _)
            · repeat (first | (with_reducible exact ((HK3.out.trans hk4).no.trans hk6)) | refine kset HB.out ?_ _ (by show B ≤ _; dsimp only; omega) _)
        · rw [if_neg k2]
          have k1' : (k == 1) = false := beq_eq_false_iff_ne.2 k1
          have k2' : (k == 2) = false := beq_eq_false_iff_ne.2 k2
          have k3' : (k == 3) = false := beq_eq_false_iff_ne.2 k3
          rcases hs with rfl | rfl
          · have d2' : decide ((0 : Int) < 0) = false := rfl
            unfold bumpV
            dsimp only
            go_enter Try.func38, Try.ntmps38
            go_wp2_with fail
            rw [HB.out]
            have hT0 := HBX.out.drew.two
            have hA3 := HA2.out.drew
            refine wp_region_held_drew (S := (fun w' => (w'.cell? ⟨B, 0, none⟩ = some (.int .i64 ms) ∧ w'.cell? ⟨B, 1, none⟩ = some (.int .i64 ml) ∧ w'.cell? ⟨B, 2, none⟩ = some (.int .i64 mt) ∧ w'.cell? ⟨B, 3, none⟩ = some (.int .i64 mc) ∧ w'.cell? ⟨B, 4, none⟩ = some (.int .i64 md)) ∧ (w'.cell? ⟨(B + 1), 0, none⟩ = some (.int .i64 k) ∧ w'.cell? ⟨(B + 1), 1, none⟩ = some (.int .i64 0) ∧ w'.cell? ⟨(B + 1), 2, none⟩ = some (.int .i64 x) ∧ w'.cell? ⟨(B + 1), 3, none⟩ = some (.int .i64 y)))) (by kernel_rfl) (hT0) (fun hHeld => ?_)
            refine wpAnyH_take (i := 0) (v := ?_) (by simp only [List.getElem?_toArray, List.getElem?_cons_succ, List.getElem?_cons_zero]; rfl) (by kernel_rfl) (by kernel_rfl) (by kernel_rfl) (by exact fun _ _ _ h => h) (Or.inl ⟨by rfl, ?_⟩) hHeld ?_
            rotate_left
            · intro w hSw; (try dsimp only at hSw); go_simp; (try with_reducible rfl)
            try simp only [Act.put, List.setIfInBounds_toArray, List.set_cons_zero, List.set_cons_succ]
            refine wpAnyH_ready (rs := [1]) (by kernel_rfl) (by simp) ?_
            refine AllReadyH.cons (by simp only [List.getElem?_toArray, List.getElem?_cons_succ, List.getElem?_cons_zero]; rfl) (fun kC hkC => ?_) AllReadyH.nil
            go_simp
            refine (may_any ⟨ms, ml, mt, mc, md⟩ _).mono ?_; rw [HMY.out]; rintro e w1 ⟨rfl, hk1⟩; have hb1 := HBX.out.drew.no hk1; have hT1 := hb1.two; have hA4 := hA3.keep hk1 (fun f => f) (fun _ _ f => f); have HK1 := Lib.hid (HK.out.drew.trans hk1)
            (try go_wp2_with fail)
            refine hkC.out _ _ (hT1) (fun hHeld => ?_)
            clear hkC kC
            try simp only [Act.put, List.setIfInBounds_toArray, List.set_cons_zero, List.set_cons_succ]
            refine wpAnyH_take (i := 2) (v := ?_) (by simp only [List.getElem?_toArray, List.getElem?_cons_succ, List.getElem?_cons_zero]; rfl) (by kernel_rfl) (by kernel_rfl) (by kernel_rfl) (by exact fun _ _ _ h => h) (Or.inl ⟨by rfl, ?_⟩) hHeld ?_
            rotate_left
            · intro w hSw; (try dsimp only at hSw); go_simp; (try with_reducible rfl)
            try simp only [Act.put, List.setIfInBounds_toArray, List.set_cons_zero, List.set_cons_succ]
            refine wpAnyH_take (i := 3) (v := ?_) (by simp only [List.getElem?_toArray, List.getElem?_cons_succ, List.getElem?_cons_zero]; rfl) (by kernel_rfl) (by kernel_rfl) (by kernel_rfl) (by exact fun _ _ _ h => h) (Or.inl ⟨by rfl, ?_⟩) hHeld ?_
            rotate_left
            · intro w hSw; (try dsimp only at hSw); go_simp; (try with_reducible rfl)
            try simp only [Act.put, List.setIfInBounds_toArray, List.set_cons_zero, List.set_cons_succ]
            refine wpAnyH_take (i := 4) (v := ?_) (by simp only [List.getElem?_toArray, List.getElem?_cons_succ, List.getElem?_cons_zero]; rfl) (by kernel_rfl) (by kernel_rfl) (by kernel_rfl) (by exact fun _ _ _ h => h) (Or.inl ⟨by rfl, ?_⟩) hHeld ?_
            rotate_left
            · intro w hSw; (try dsimp only at hSw); go_simp; (try with_reducible rfl)
            try simp only [Act.put, List.setIfInBounds_toArray, List.set_cons_zero, List.set_cons_succ]
            refine wpAnyH_take (i := 6) (v := ?_) (by simp only [List.getElem?_toArray, List.getElem?_cons_succ, List.getElem?_cons_zero]; rfl) (by kernel_rfl) (by kernel_rfl) (by kernel_rfl) (by exact fun _ _ _ h => h) (Or.inl ⟨by rfl, ?_⟩) hHeld ?_
            rotate_left
            · intro w hSw; (try dsimp only at hSw); go_simp; (try with_reducible rfl)
            try simp only [Act.put, List.setIfInBounds_toArray, List.set_cons_zero, List.set_cons_succ]
            refine wpAnyH_ready (rs := [5]) (by kernel_rfl) (by simp) ?_
            refine AllReadyH.cons (by simp only [List.getElem?_toArray, List.getElem?_cons_succ, List.getElem?_cons_zero]; rfl) (fun kC hkC => ?_) AllReadyH.nil
            go_simp
            refine (mlen_any a v M _ hA4).mono ?_; rintro e w2 ⟨rfl, rfl⟩
            (try go_wp2_with fail)
            refine hkC.out _ _ (hT1) (fun hHeld => ?_)
            clear hkC kC
            try simp only [Act.put, List.setIfInBounds_toArray, List.set_cons_zero, List.set_cons_succ]
            refine wpAnyH_ready (rs := [7]) (by kernel_rfl) (by simp) ?_
            refine AllReadyH.cons (by simp only [List.getElem?_toArray, List.getElem?_cons_succ, List.getElem?_cons_zero]; rfl) (fun kC hkC => ?_) AllReadyH.nil
            go_simp
            refine (size_lit ms ml mt mc md sz HSZ.out _).mono ?_; rintro e w3 ⟨rfl, hk3⟩; have hb3 := hb1.no hk3; have hT3 := hb3.two; have hA5 := hA4.keep hk3 (fun f => f) (fun _ _ f => f); have HK3 := Lib.hid (HK1.out.trans hk3)
            (try go_wp2_with fail)
            refine hkC.out _ _ (hT3) (fun hHeld => ?_)
            clear hkC kC
            try simp only [Act.put, List.setIfInBounds_toArray, List.set_cons_zero, List.set_cons_succ]
            refine wpAnyH_take (i := 8) (v := ?_) (by simp only [List.getElem?_toArray, List.getElem?_cons_succ, List.getElem?_cons_zero]; rfl) (by kernel_rfl) (by kernel_rfl) (by kernel_rfl) (by exact fun _ _ _ h => h) (Or.inl ⟨by rfl, ?_⟩) hHeld ?_
            rotate_left
            · intro w hSw; (try dsimp only at hSw); go_simp; (try with_reducible rfl)
            try simp only [Act.put, List.setIfInBounds_toArray, List.set_cons_zero, List.set_cons_succ]
            refine wpAnyH_take (i := 9) (v := ?_) (by simp only [List.getElem?_toArray, List.getElem?_cons_succ, List.getElem?_cons_zero]; rfl) (by kernel_rfl) (by kernel_rfl) (by kernel_rfl) (by exact fun _ _ _ h => h) (Or.inl ⟨by rfl, ?_⟩) hHeld ?_
            rotate_left
            · intro w hSw; (try dsimp only at hSw); go_simp; (try with_reducible rfl)
            try simp only [Act.put, List.setIfInBounds_toArray, List.set_cons_zero, List.set_cons_succ]
            refine wpAnyH_take (i := 10) (v := ?_) (by simp only [List.getElem?_toArray, List.getElem?_cons_succ, List.getElem?_cons_zero]; rfl) (by kernel_rfl) (by kernel_rfl) (by kernel_rfl) (by exact fun _ _ _ h => h) (Or.inl ⟨by rfl, ?_⟩) hHeld ?_
            rotate_left
            · intro w hSw; (try dsimp only at hSw); go_simp; (try with_reducible rfl)
            try simp only [Act.put, List.setIfInBounds_toArray, List.set_cons_zero, List.set_cons_succ]
            refine wpAnyH_take (i := 11) (v := ?_) (by simp only [List.getElem?_toArray, List.getElem?_cons_succ, List.getElem?_cons_zero]; rfl) (by kernel_rfl) (by kernel_rfl) (by kernel_rfl) (by exact fun _ _ _ h => h) (Or.inl ⟨by rfl, ?_⟩) hHeld ?_
            rotate_left
            · intro w hSw; (try dsimp only at hSw); go_simp; (try with_reducible rfl)
            try simp only [Act.put, List.setIfInBounds_toArray, List.set_cons_zero, List.set_cons_succ]
            refine wpAnyH_take (i := 12) (v := ?_) (by simp only [List.getElem?_toArray, List.getElem?_cons_succ, List.getElem?_cons_zero]; rfl) (by kernel_rfl) (by kernel_rfl) (by kernel_rfl) (by exact fun _ _ _ h => h) (Or.inl ⟨by rfl, ?_⟩) hHeld ?_
            rotate_left
            · intro w hSw; (try dsimp only at hSw); go_simp; (try with_reducible rfl)
            try simp only [Act.put, List.setIfInBounds_toArray, List.set_cons_zero, List.set_cons_succ]
            refine wpAnyH_take (i := 13) (v := ?_) (by simp only [List.getElem?_toArray, List.getElem?_cons_succ, List.getElem?_cons_zero]; rfl) (by kernel_rfl) (by kernel_rfl) (by kernel_rfl) (by exact fun _ _ _ h => h) (Or.inl ⟨by rfl, ?_⟩) hHeld ?_
            rotate_left
            · intro w hSw; (try dsimp only at hSw); go_simp; (try with_reducible rfl)
            try simp only [Act.put, List.setIfInBounds_toArray, List.set_cons_zero, List.set_cons_succ]
            refine wpAnyH_take (i := 14) (v := ?_) (by simp only [List.getElem?_toArray, List.getElem?_cons_succ, List.getElem?_cons_zero]; rfl) (by kernel_rfl) (by kernel_rfl) (by kernel_rfl) (by exact fun _ _ _ h => h) (Or.inl ⟨by rfl, ?_⟩) hHeld ?_
            rotate_left
            · intro w hSw; (try dsimp only at hSw); go_simp; (try with_reducible rfl)
            try simp only [Act.put, List.setIfInBounds_toArray, List.set_cons_zero, List.set_cons_succ]
            refine wpAnyH_take (i := 15) (v := ?_) (by simp only [List.getElem?_toArray, List.getElem?_cons_succ, List.getElem?_cons_zero]; rfl) (by kernel_rfl) (by kernel_rfl) (by kernel_rfl) (by exact fun _ _ _ h => h) (Or.inl ⟨by rfl, ?_⟩) hHeld ?_
            rotate_left
            · intro w hSw; (try dsimp only at hSw); go_simp; (try with_reducible rfl)
            try simp only [Act.put, List.setIfInBounds_toArray, List.set_cons_zero, List.set_cons_succ]
            refine wpAnyH_take (i := 16) (v := ?_) (by simp only [List.getElem?_toArray, List.getElem?_cons_succ, List.getElem?_cons_zero]; rfl) (by kernel_rfl) (by kernel_rfl) (by kernel_rfl) (by exact fun _ _ _ h => h) (Or.inl ⟨by rfl, ?_⟩) hHeld ?_
            rotate_left
            · intro w hSw; (try dsimp only at hSw); go_simp; (try with_reducible rfl)
            try simp only [Act.put, List.setIfInBounds_toArray, List.set_cons_zero, List.set_cons_succ]
            refine wpAnyH_take (i := 17) (v := ?_) (by simp only [List.getElem?_toArray, List.getElem?_cons_succ, List.getElem?_cons_zero]; rfl) (by kernel_rfl) (by kernel_rfl) (by kernel_rfl) (by exact fun _ _ _ h => h) (Or.inl ⟨by rfl, ?_⟩) hHeld ?_
            rotate_left
            · intro w hSw; (try dsimp only at hSw); go_simp; (try with_reducible rfl)
            try simp only [Act.put, List.setIfInBounds_toArray, List.set_cons_zero, List.set_cons_succ]
            refine wpAnyH_take (i := 18) (v := ?_) (by simp only [List.getElem?_toArray, List.getElem?_cons_succ, List.getElem?_cons_zero]; rfl) (by kernel_rfl) (by kernel_rfl) (by kernel_rfl) (by exact fun _ _ _ h => h) (Or.inl ⟨by rfl, ?_⟩) hHeld ?_
            rotate_left
            · intro w hSw; (try dsimp only at hSw); go_simp; (try with_reducible rfl)
            try simp only [Act.put, List.setIfInBounds_toArray, List.set_cons_zero, List.set_cons_succ]
            refine wpAnyH_take (i := 19) (v := ?_) (by simp only [List.getElem?_toArray, List.getElem?_cons_succ, List.getElem?_cons_zero]; rfl) (by kernel_rfl) (by kernel_rfl) (by kernel_rfl) (by exact fun _ _ _ h => h) (Or.inl ⟨by rfl, ?_⟩) hHeld ?_
            rotate_left
            · intro w hSw; (try dsimp only at hSw); go_simp; (try with_reducible rfl)
            try simp only [Act.put, List.setIfInBounds_toArray, List.set_cons_zero, List.set_cons_succ]
            refine wpAnyH_done (by kernel_rfl) ?_ _
            obtain ⟨⟨m0, m1, m2, m3, m4⟩, ⟨c0, c1, c2, c3⟩, ⟨r0, r1, r2, r3⟩, ⟨f0, f1, f2, f3⟩, ⟨g0, g1, g2, g3⟩, z1, z2⟩ := hb3.facts
            have HBL := Lib.hid hb3
            clear hT0 hT1 hT3 hb1 hb3
            go_wp2_with (go_at_call 50; refine (clock_lit ms ml mt mc md 0 HCL.out _).mono ?_; rintro e w4 ⟨rfl, hk4⟩; have hb4 := HBL.out.no hk4; have hA6 := hA5.keep hk4 (fun f => f) (fun _ _ f => f); obtain ⟨⟨p0, p1, p2, p3, p4⟩, ⟨n0, n1, n2, n3⟩, ⟨q0, q1, q2, q3⟩, ⟨u0, u1, u2, u3⟩, ⟨v0, v1, v2, v3⟩, z3, z4⟩ := hb4.facts; have HB4 := Lib.hid hb4; clear hb4)
            refine bodyPost_ret (v := .agg #[.int .i64 k, .int .i64 0, .int .i64 x, .int .i64 y]) (by simp [results, Try.results38, go_sem, *]) rfl ⟨rfl, ?_, ?_⟩
            · repeat (first | (with_reducible exact hA6) | refine MemT.set (B := B) ?_ ha HV.out _ (by show B ≤ _; dsimp only; omega) _)
            · repeat (first | (with_reducible exact ((HK3.out.trans hk4).no)) | refine kset HB.out ?_ _ (by show B ≤ _; dsimp only; omega) _)
          · unfold bumpV
            dsimp only
            go_enter Try.func38, Try.ntmps38
            go_wp2_with fail
            rw [HB.out]
            have hT0 := HBX.out.drew.two
            have hA3 := HA2.out.drew
            refine wp_region_held_drew (S := (fun w' => (w'.cell? ⟨B, 0, none⟩ = some (.int .i64 ms) ∧ w'.cell? ⟨B, 1, none⟩ = some (.int .i64 ml) ∧ w'.cell? ⟨B, 2, none⟩ = some (.int .i64 mt) ∧ w'.cell? ⟨B, 3, none⟩ = some (.int .i64 mc) ∧ w'.cell? ⟨B, 4, none⟩ = some (.int .i64 md)) ∧ (w'.cell? ⟨(B + 1), 0, none⟩ = some (.int .i64 k) ∧ w'.cell? ⟨(B + 1), 1, none⟩ = some (.int .i64 1) ∧ w'.cell? ⟨(B + 1), 2, none⟩ = some (.int .i64 x) ∧ w'.cell? ⟨(B + 1), 3, none⟩ = some (.int .i64 y)))) (by kernel_rfl) (hT0) (fun hHeld => ?_)
            refine wpAnyH_take (i := 0) (v := ?_) (by simp only [List.getElem?_toArray, List.getElem?_cons_succ, List.getElem?_cons_zero]; rfl) (by kernel_rfl) (by kernel_rfl) (by kernel_rfl) (by exact fun _ _ _ h => h) (Or.inl ⟨by rfl, ?_⟩) hHeld ?_
            rotate_left
            · intro w hSw; (try dsimp only at hSw); go_simp; (try with_reducible rfl)
            try simp only [Act.put, List.setIfInBounds_toArray, List.set_cons_zero, List.set_cons_succ]
            refine wpAnyH_ready (rs := [1]) (by kernel_rfl) (by simp) ?_
            refine AllReadyH.cons (by simp only [List.getElem?_toArray, List.getElem?_cons_succ, List.getElem?_cons_zero]; rfl) (fun kC hkC => ?_) AllReadyH.nil
            go_simp
            refine (may_any ⟨ms, ml, mt, mc, md⟩ _).mono ?_; rw [HMY.out]; rintro e w1 ⟨rfl, hk1⟩; have hb1 := HBX.out.drew.no hk1; have hT1 := hb1.two; have hA4 := hA3.keep hk1 (fun f => f) (fun _ _ f => f); have HK1 := Lib.hid (HK.out.drew.trans hk1)
            (try go_wp2_with fail)
            refine hkC.out _ _ (hT1) (fun hHeld => ?_)
            clear hkC kC
            try simp only [Act.put, List.setIfInBounds_toArray, List.set_cons_zero, List.set_cons_succ]
            refine wpAnyH_take (i := 2) (v := ?_) (by simp only [List.getElem?_toArray, List.getElem?_cons_succ, List.getElem?_cons_zero]; rfl) (by kernel_rfl) (by kernel_rfl) (by kernel_rfl) (by exact fun _ _ _ h => h) (Or.inl ⟨by rfl, ?_⟩) hHeld ?_
            rotate_left
            · intro w hSw; (try dsimp only at hSw); go_simp; (try with_reducible rfl)
            try simp only [Act.put, List.setIfInBounds_toArray, List.set_cons_zero, List.set_cons_succ]
            refine wpAnyH_take (i := 3) (v := ?_) (by simp only [List.getElem?_toArray, List.getElem?_cons_succ, List.getElem?_cons_zero]; rfl) (by kernel_rfl) (by kernel_rfl) (by kernel_rfl) (by exact fun _ _ _ h => h) (Or.inl ⟨by rfl, ?_⟩) hHeld ?_
            rotate_left
            · intro w hSw; (try dsimp only at hSw); go_simp; (try with_reducible rfl)
            try simp only [Act.put, List.setIfInBounds_toArray, List.set_cons_zero, List.set_cons_succ]
            refine wpAnyH_take (i := 4) (v := ?_) (by simp only [List.getElem?_toArray, List.getElem?_cons_succ, List.getElem?_cons_zero]; rfl) (by kernel_rfl) (by kernel_rfl) (by kernel_rfl) (by exact fun _ _ _ h => h) (Or.inl ⟨by rfl, ?_⟩) hHeld ?_
            rotate_left
            · intro w hSw; (try dsimp only at hSw); go_simp; (try with_reducible rfl)
            try simp only [Act.put, List.setIfInBounds_toArray, List.set_cons_zero, List.set_cons_succ]
            refine wpAnyH_take (i := 6) (v := ?_) (by simp only [List.getElem?_toArray, List.getElem?_cons_succ, List.getElem?_cons_zero]; rfl) (by kernel_rfl) (by kernel_rfl) (by kernel_rfl) (by exact fun _ _ _ h => h) (Or.inl ⟨by rfl, ?_⟩) hHeld ?_
            rotate_left
            · intro w hSw; (try dsimp only at hSw); go_simp; (try with_reducible rfl)
            try simp only [Act.put, List.setIfInBounds_toArray, List.set_cons_zero, List.set_cons_succ]
            refine wpAnyH_ready (rs := [5]) (by kernel_rfl) (by simp) ?_
            refine AllReadyH.cons (by simp only [List.getElem?_toArray, List.getElem?_cons_succ, List.getElem?_cons_zero]; rfl) (fun kC hkC => ?_) AllReadyH.nil
            go_simp
            refine (mlen_any a v M _ hA4).mono ?_; rintro e w2 ⟨rfl, rfl⟩
            (try go_wp2_with fail)
            refine hkC.out _ _ (hT1) (fun hHeld => ?_)
            clear hkC kC
            try simp only [Act.put, List.setIfInBounds_toArray, List.set_cons_zero, List.set_cons_succ]
            refine wpAnyH_ready (rs := [7]) (by kernel_rfl) (by simp) ?_
            refine AllReadyH.cons (by simp only [List.getElem?_toArray, List.getElem?_cons_succ, List.getElem?_cons_zero]; rfl) (fun kC hkC => ?_) AllReadyH.nil
            go_simp
            refine (size_lit ms ml mt mc md sz HSZ.out _).mono ?_; rintro e w3 ⟨rfl, hk3⟩; have hb3 := hb1.no hk3; have hT3 := hb3.two; have hA5 := hA4.keep hk3 (fun f => f) (fun _ _ f => f); have HK3 := Lib.hid (HK1.out.trans hk3)
            (try go_wp2_with fail)
            refine hkC.out _ _ (hT3) (fun hHeld => ?_)
            clear hkC kC
            try simp only [Act.put, List.setIfInBounds_toArray, List.set_cons_zero, List.set_cons_succ]
            refine wpAnyH_take (i := 8) (v := ?_) (by simp only [List.getElem?_toArray, List.getElem?_cons_succ, List.getElem?_cons_zero]; rfl) (by kernel_rfl) (by kernel_rfl) (by kernel_rfl) (by exact fun _ _ _ h => h) (Or.inl ⟨by rfl, ?_⟩) hHeld ?_
            rotate_left
            · intro w hSw; (try dsimp only at hSw); go_simp; (try with_reducible rfl)
            try simp only [Act.put, List.setIfInBounds_toArray, List.set_cons_zero, List.set_cons_succ]
            refine wpAnyH_take (i := 9) (v := ?_) (by simp only [List.getElem?_toArray, List.getElem?_cons_succ, List.getElem?_cons_zero]; rfl) (by kernel_rfl) (by kernel_rfl) (by kernel_rfl) (by exact fun _ _ _ h => h) (Or.inl ⟨by rfl, ?_⟩) hHeld ?_
            rotate_left
            · intro w hSw; (try dsimp only at hSw); go_simp; (try with_reducible rfl)
            try simp only [Act.put, List.setIfInBounds_toArray, List.set_cons_zero, List.set_cons_succ]
            refine wpAnyH_take (i := 10) (v := ?_) (by simp only [List.getElem?_toArray, List.getElem?_cons_succ, List.getElem?_cons_zero]; rfl) (by kernel_rfl) (by kernel_rfl) (by kernel_rfl) (by exact fun _ _ _ h => h) (Or.inl ⟨by rfl, ?_⟩) hHeld ?_
            rotate_left
            · intro w hSw; (try dsimp only at hSw); go_simp; (try with_reducible rfl)
            try simp only [Act.put, List.setIfInBounds_toArray, List.set_cons_zero, List.set_cons_succ]
            refine wpAnyH_take (i := 11) (v := ?_) (by simp only [List.getElem?_toArray, List.getElem?_cons_succ, List.getElem?_cons_zero]; rfl) (by kernel_rfl) (by kernel_rfl) (by kernel_rfl) (by exact fun _ _ _ h => h) (Or.inl ⟨by rfl, ?_⟩) hHeld ?_
            rotate_left
            · intro w hSw; (try dsimp only at hSw); go_simp; (try with_reducible rfl)
            try simp only [Act.put, List.setIfInBounds_toArray, List.set_cons_zero, List.set_cons_succ]
            refine wpAnyH_take (i := 12) (v := ?_) (by simp only [List.getElem?_toArray, List.getElem?_cons_succ, List.getElem?_cons_zero]; rfl) (by kernel_rfl) (by kernel_rfl) (by kernel_rfl) (by exact fun _ _ _ h => h) (Or.inl ⟨by rfl, ?_⟩) hHeld ?_
            rotate_left
            · intro w hSw; (try dsimp only at hSw); go_simp; (try with_reducible rfl)
            try simp only [Act.put, List.setIfInBounds_toArray, List.set_cons_zero, List.set_cons_succ]
            refine wpAnyH_take (i := 13) (v := ?_) (by simp only [List.getElem?_toArray, List.getElem?_cons_succ, List.getElem?_cons_zero]; rfl) (by kernel_rfl) (by kernel_rfl) (by kernel_rfl) (by exact fun _ _ _ h => h) (Or.inl ⟨by rfl, ?_⟩) hHeld ?_
            rotate_left
            · intro w hSw; (try dsimp only at hSw); go_simp; (try with_reducible rfl)
            try simp only [Act.put, List.setIfInBounds_toArray, List.set_cons_zero, List.set_cons_succ]
            refine wpAnyH_take (i := 14) (v := ?_) (by simp only [List.getElem?_toArray, List.getElem?_cons_succ, List.getElem?_cons_zero]; rfl) (by kernel_rfl) (by kernel_rfl) (by kernel_rfl) (by exact fun _ _ _ h => h) (Or.inl ⟨by rfl, ?_⟩) hHeld ?_
            rotate_left
            · intro w hSw; (try dsimp only at hSw); go_simp; (try with_reducible rfl)
            try simp only [Act.put, List.setIfInBounds_toArray, List.set_cons_zero, List.set_cons_succ]
            refine wpAnyH_take (i := 15) (v := ?_) (by simp only [List.getElem?_toArray, List.getElem?_cons_succ, List.getElem?_cons_zero]; rfl) (by kernel_rfl) (by kernel_rfl) (by kernel_rfl) (by exact fun _ _ _ h => h) (Or.inl ⟨by rfl, ?_⟩) hHeld ?_
            rotate_left
            · intro w hSw; (try dsimp only at hSw); go_simp; (try with_reducible rfl)
            try simp only [Act.put, List.setIfInBounds_toArray, List.set_cons_zero, List.set_cons_succ]
            refine wpAnyH_take (i := 16) (v := ?_) (by simp only [List.getElem?_toArray, List.getElem?_cons_succ, List.getElem?_cons_zero]; rfl) (by kernel_rfl) (by kernel_rfl) (by kernel_rfl) (by exact fun _ _ _ h => h) (Or.inl ⟨by rfl, ?_⟩) hHeld ?_
            rotate_left
            · intro w hSw; (try dsimp only at hSw); go_simp; (try with_reducible rfl)
            try simp only [Act.put, List.setIfInBounds_toArray, List.set_cons_zero, List.set_cons_succ]
            refine wpAnyH_take (i := 17) (v := ?_) (by simp only [List.getElem?_toArray, List.getElem?_cons_succ, List.getElem?_cons_zero]; rfl) (by kernel_rfl) (by kernel_rfl) (by kernel_rfl) (by exact fun _ _ _ h => h) (Or.inl ⟨by rfl, ?_⟩) hHeld ?_
            rotate_left
            · intro w hSw; (try dsimp only at hSw); go_simp; (try with_reducible rfl)
            try simp only [Act.put, List.setIfInBounds_toArray, List.set_cons_zero, List.set_cons_succ]
            refine wpAnyH_take (i := 18) (v := ?_) (by simp only [List.getElem?_toArray, List.getElem?_cons_succ, List.getElem?_cons_zero]; rfl) (by kernel_rfl) (by kernel_rfl) (by kernel_rfl) (by exact fun _ _ _ h => h) (Or.inl ⟨by rfl, ?_⟩) hHeld ?_
            rotate_left
            · intro w hSw; (try dsimp only at hSw); go_simp; (try with_reducible rfl)
            try simp only [Act.put, List.setIfInBounds_toArray, List.set_cons_zero, List.set_cons_succ]
            refine wpAnyH_take (i := 19) (v := ?_) (by simp only [List.getElem?_toArray, List.getElem?_cons_succ, List.getElem?_cons_zero]; rfl) (by kernel_rfl) (by kernel_rfl) (by kernel_rfl) (by exact fun _ _ _ h => h) (Or.inl ⟨by rfl, ?_⟩) hHeld ?_
            rotate_left
            · intro w hSw; (try dsimp only at hSw); go_simp; (try with_reducible rfl)
            try simp only [Act.put, List.setIfInBounds_toArray, List.set_cons_zero, List.set_cons_succ]
            refine wpAnyH_done (by kernel_rfl) ?_ _
            obtain ⟨⟨m0, m1, m2, m3, m4⟩, ⟨c0, c1, c2, c3⟩, ⟨r0, r1, r2, r3⟩, ⟨f0, f1, f2, f3⟩, ⟨g0, g1, g2, g3⟩, z1, z2⟩ := hb3.facts
            have HBL := Lib.hid hb3
            clear hT0 hT1 hT3 hb1 hb3
            go_wp2_with (go_at_call 50; refine (clock_lit ms ml mt mc md 0 HCL.out _).mono ?_; rintro e w4 ⟨rfl, hk4⟩; have hb4 := HBL.out.no hk4; have hA6 := hA5.keep hk4 (fun f => f) (fun _ _ f => f); obtain ⟨⟨p0, p1, p2, p3, p4⟩, ⟨n0, n1, n2, n3⟩, ⟨q0, q1, q2, q3⟩, ⟨u0, u1, u2, u3⟩, ⟨v0, v1, v2, v3⟩, z3, z4⟩ := hb4.facts; have HB4 := Lib.hid hb4; clear hb4)
            refine bodyPost_ret (v := .agg #[.int .i64 k, .int .i64 1, .int .i64 x, .int .i64 y]) (by simp [results, Try.results38, go_sem, *]) rfl ⟨rfl, ?_, ?_⟩
            · repeat (first | (with_reducible exact hA6) | refine MemT.set (B := B) ?_ ha HV.out _ (by show B ≤ _; dsimp only; omega) _)
            · repeat (first | (with_reducible exact ((HK3.out.trans hk4).no)) | refine kset HB.out ?_ _ (by show B ≤ _; dsimp only; omega) _)
end Go.Proofs.Ytodaiogefgdcpaa
