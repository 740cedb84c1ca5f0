/- Layer 11: Over, and the document's example. -/
import Derived.Test.YtodaiogefgdcpaaClockRef
import Derived.Test.YtodaiogefgdcpaaHands
namespace Go.Proofs.Ytodaiogefgdcpaa
open Go.RowKit
theorem over_any (x y : Int) (w : World) : Calls Try.prog 55 #[.int .i64 x, .int .i64 y] w fun e w' => e = .returned (.bool (decide (y < x))) ∧ w = w' := by
  go_enter Try.func55, Try.ntmps55
  go_wp2_with fail
  go_ret
  exact ⟨by simp, rfl⟩
theorem size8 : sizeP ⟨2, 2, 4, 0, 2⟩ = 48 := by kernel_rfl
theorem clk8 : clockP ⟨2, 2, 4, 0, 2⟩ = 0 ∧ seqP ⟨2, 2, 4, 0, 2⟩ = 1 := ⟨by kernel_rfl, by kernel_rfl⟩
theorem told11_plain : ∃ M2 : MemS, stepB ⟨2, 2, 4, 0, 2⟩ ((M0 48).store 0 4) ⟨1, 0, 0, 0⟩ = (M2, ⟨1, 9, 0, 5⟩) ∧ M2.st = 2 :=
  ⟨(stepB ⟨2, 2, 4, 0, 2⟩ ((M0 48).store 0 4) ⟨1, 0, 0, 0⟩).1, by kernel_rfl, by kernel_rfl⟩
theorem start11 : bumpV (startB 1 1) = .agg #[.int .i64 1, .int .i64 0, .int .i64 0, .int .i64 0] := by kernel_rfl
theorem start21 : bumpV (startB 2 1) = .agg #[.int .i64 3, .int .i64 0, .int .i64 0, .int .i64 0] := by kernel_rfl
theorem TwoT.bumpNew {T U : TypeId} {W w : World} {a c : Nat} {v u : Value} {M N : MemS} (X : TypeId) (h : TwoT T U W w a c v u M N) :
    BumpAt (w.alloc (.cells #[.int .i64 0, .int .i64 0, .int .i64 0, .int .i64 0] X)) X w.heap.size 0 0 0 0 ∧ ¬ own2m a v w.heap.size ∧ W.heap.size ≤ w.heap.size ∧ TwoT T U W (w.alloc (.cells #[.int .i64 0, .int .i64 0, .int .i64 0, .int .i64 0] X)) a c v u M N :=
  ⟨bumpAt_new _ _ _ _ _ _, not_own (fun e => by have := h.apart.a; omega) (fun e => by have := h.apart.v _ e; omega), h.s.kp.size, h.keep ((Keeps.refl NoS w).alloc _)⟩
theorem mapC11 {w : World} {B : Nat} (h : MapAt w B 2 2 4 0 2) : (w.cell? ⟨B, 0, none⟩ = some (.int .i64 2) ∧ w.cell? ⟨B, 1, none⟩ = some (.int .i64 2) ∧ w.cell? ⟨B, 2, none⟩ = some (.int .i64 4) ∧ w.cell? ⟨B, 3, none⟩ = some (.int .i64 0) ∧ w.cell? ⟨B, 4, none⟩ = some (.int .i64 2)) := h
theorem MemT.setN {T : TypeId} {w : World} {a : Nat} {v : Value} {M : MemS} {g : Nat} (hg : ¬ own2m a v g) (h : MemT T w a v M) (j : Nat) (u : Value) : MemT T (w.setCell ⟨g, j, none⟩ u) a v M :=
  h.keep ((Keeps.refl (just g) w).setCell (p := ⟨g, j, none⟩) (fun _ => rfl) u) (fun e => hg (.inl e.symm)) (fun i hi e => hg (.inr (by have e' : i = g := e; rw [← e']; exact hi)))
theorem Keeps.setN {S : Nat → Prop} {w w' : World} {g : Nat} (hg : w.heap.size ≤ g) (h : Keeps S w w') (j : Nat) (u : Value) : Keeps S w (w'.setCell ⟨g, j, none⟩ u) :=
  h.setCell (p := ⟨g, j, none⟩) (fun hlt => by have h' : g < w.heap.size := hlt; omega) u
set_option maxHeartbeats 4000000 in
set_option maxRecDepth 100000 in
theorem told11_any (w : World) : Calls Try.prog 34 #[] w fun e w' => e = .returned (.bool true) ∧ Keeps NoS w w' := by
  obtain ⟨M2, e1, e2⟩ := told11_plain
  have E1 := Lib.hid e1
  clear e1
  go_enter Try.func34, Try.ntmps34
  go_wp2_with (go_at_call 15; refine (map8_any _).mono ?_; rintro e w1 ⟨rfl, hk1⟩)
  have hB := mapAt_new w1 2 2 4 0 2 25
  have hk1' := hk1.alloc (.cells #[.int .i64 2, .int .i64 2, .int .i64 4, .int .i64 0, .int .i64 2] 25)
  obtain ⟨B, hBe⟩ : ∃ B, w1.heap.size = B := ⟨_, rfl⟩
  have hBl : B < (w1.alloc (.cells #[.int .i64 2, .int .i64 2, .int .i64 4, .int .i64 0, .int .i64 2] 25)).heap.size := by rw [← hBe]; simp
  rw [hBe] at hB
  rw [hBe]
  generalize w1.alloc (.cells #[.int .i64 2, .int .i64 2, .int .i64 4, .int .i64 0, .int .i64 2] 25) = W at *
  refine (both_any 2 2 4 0 2 48 size8 (by decide) (by decide) W).mono ?_
  rintro e w2 ⟨a, c, v, u, rfl, hT⟩
  have HBm := Lib.hid (fun w' (h : Keeps NoS W w') => mapC11 (hB.keep h (fun f => f)))
  have HWk := Lib.hid hk1'
  have hWle : W.heap.size ≤ w2.heap.size := hT.s.kp.size
  obtain ⟨m0, m1, m2, m3, m4⟩ := HBm.out _ hT.s.kp
  clear hk1 hk1' hB hBe
  go_wp2_with (first
    | (go_at_call 50; refine (clock_lit 2 2 4 0 2 0 clk8.1 _).mono ?_; rintro e w3 ⟨rfl, hk3⟩; have hT := hT.keep hk3)
    | (go_at_call 24; refine (store_ok a v (M0 48) 0 4 _ hT.s.m (by rw [M0_len]; decide)).mono ?_; rintro e w4 ⟨rfl, hmm, hkk⟩; have hT := hT.turnS hmm hkk; have hm := HBm.out _ hT.s.kp))
  have hT := hT.keep ((Keeps.refl NoS _).drew)
  have hm := HBm.out _ hT.s.kp
  refine wp_region_held_drew (S := (fun w' => (w'.cell? ⟨B, 0, none⟩ = some (.int .i64 2) ∧ w'.cell? ⟨B, 1, none⟩ = some (.int .i64 2) ∧ w'.cell? ⟨B, 2, none⟩ = some (.int .i64 4) ∧ w'.cell? ⟨B, 3, none⟩ = some (.int .i64 0) ∧ w'.cell? ⟨B, 4, none⟩ = some (.int .i64 2)))) (by kernel_rfl) (hm) (fun hHeld => ?_)
  generalize w4.drew = wd at *
  refine wpAnyH_take (i := 0) (v := ?_) (by simp only [List.getElem?_toArray, List.getElem?_cons_succ, List.getElem?_cons_zero]; rfl) (by kernel_rfl) (by kernel_rfl) (by kernel_rfl) (by exact fun _ _ _ h => h) (Or.inl ⟨by rfl, ?_⟩) hHeld ?_
  rotate_left
  · intro w hSw; (try dsimp only at hSw); go_simp; (try with_reducible rfl)
  try simp only [Act.put, List.setIfInBounds_toArray, List.set_cons_zero, List.set_cons_succ]
  refine wpAnyH_take (i := 1) (v := ?_) (by simp only [List.getElem?_toArray, List.getElem?_cons_succ, List.getElem?_cons_zero]; rfl) (by kernel_rfl) (by kernel_rfl) (by kernel_rfl) (by exact fun _ _ _ h => h) (Or.inl ⟨by rfl, ?_⟩) hHeld ?_
  rotate_left
  · intro w hSw; (try dsimp only at hSw); go_simp; (try with_reducible rfl)
  try simp only [Act.put, List.setIfInBounds_toArray, List.set_cons_zero, List.set_cons_succ]
  refine wpAnyH_ready (rs := [2, 4]) (by kernel_rfl) (by simp) ?_
  refine AllReadyH.cons (by simp only [List.getElem?_toArray, List.getElem?_cons_succ, List.getElem?_cons_zero]; rfl) (fun kC hkC => ?_) (AllReadyH.cons (by simp only [List.getElem?_toArray, List.getElem?_cons_succ, List.getElem?_cons_zero]; rfl) (fun kC hkC => ?_) AllReadyH.nil)
  go_simp
  refine (start_any 1 1 _).mono ?_; rw [start11]; rintro r wS ⟨rfl, hkS⟩; have hT := hT.keep hkS; have hm := HBm.out _ hT.s.kp; (try (have hb := hb.keep hkS (fun f => f))); (try go_wp2_with fail)
  refine hkC.out _ _ ?_ (fun hHeld => ?_)
  · exact (hm)
  clear hkC kC
  try simp only [Act.put, List.setIfInBounds_toArray, List.set_cons_zero, List.set_cons_succ]
  refine wpAnyH_ready (rs := [3, 4]) (by kernel_rfl) (by simp) ?_
  refine AllReadyH.cons (by simp only [List.getElem?_toArray, List.getElem?_cons_succ, List.getElem?_cons_zero]; rfl) (fun kC hkC => ?_) (AllReadyH.cons (by simp only [List.getElem?_toArray, List.getElem?_cons_succ, List.getElem?_cons_zero]; rfl) (fun kC hkC => ?_) AllReadyH.nil)
  go_simp
  refine (step_any 2 2 4 0 2 1 0 0 0 a v ((M0 48).store 0 4) _ hT.s.m).mono ?_; rw [E1.out]; unfold bumpV; dsimp only; rintro r wT ⟨rfl, hmT, hkT⟩; (try (have hb := hb.keep hkT hnb; obtain ⟨⟨b0, b1, b2, b3⟩, g0, g1, g2, g3, gz⟩ := hb.cells)); have hT := hT.turnS hmT hkT; have hm := HBm.out _ hT.s.kp; (try go_wp2_with fail)
  refine hkC.out _ _ ?_ (fun hHeld => ?_)
  · exact (hm)
  clear hkC kC
  try simp only [Act.put, List.setIfInBounds_toArray, List.set_cons_zero, List.set_cons_succ]
  refine wpAnyH_ready (rs := [4]) (by kernel_rfl) (by simp) ?_
  refine AllReadyH.cons (by simp only [List.getElem?_toArray, List.getElem?_cons_succ, List.getElem?_cons_zero]; rfl) (fun kC hkC => ?_) AllReadyH.nil
  go_simp
  have hT0 := hT; obtain ⟨hb, hnb, hgw, hT⟩ := hT.bumpNew 65; have hm := HBm.out _ hT.s.kp; obtain ⟨⟨b0, b1, b2, b3⟩, g0, g1, g2, g3, gz⟩ := hb.cells
  refine hkC.out _ _ ?_ (fun hHeld => ?_)
  · exact (hm)
  clear hkC kC
  try simp only [Act.put, List.setIfInBounds_toArray, List.set_cons_zero, List.set_cons_succ]
  refine wpAnyH_ready (rs := [5]) (by kernel_rfl) (by simp) ?_
  refine AllReadyH.cons (by simp only [List.getElem?_toArray, List.getElem?_cons_succ, List.getElem?_cons_zero]; rfl) (fun kC hkC => ?_) AllReadyH.nil
  go_simp
  refine hkC.out _ _ ?_ (fun hHeld => ?_)
  · exact ((HBm.out _ (by first | exact hT0.s.kp.alloc _ | (repeat (first | (with_reducible exact hT.s.kp) | refine Keeps.setN hgw ?_ _ _)))))
  clear hkC kC
  try simp only [Act.put, List.setIfInBounds_toArray, List.set_cons_zero, List.set_cons_succ]
  refine wpAnyH_done (by kernel_rfl) ?_ _
  rotate_left
  go_simp
  have hT0 := hT; obtain ⟨hb, hnb, hgw, hT⟩ := hT.bumpNew 65; have hm := HBm.out _ hT.s.kp; obtain ⟨⟨b0, b1, b2, b3⟩, g0, g1, g2, g3, gz⟩ := hb.cells
  refine hkC.out _ _ ?_ (fun hHeld => ?_)
  · exact (hm)
  clear hkC kC
  try simp only [Act.put, List.setIfInBounds_toArray, List.set_cons_zero, List.set_cons_succ]
  refine wpAnyH_ready (rs := [3]) (by kernel_rfl) (by simp) ?_
  refine AllReadyH.cons (by simp only [List.getElem?_toArray, List.getElem?_cons_succ, List.getElem?_cons_zero]; rfl) (fun kC hkC => ?_) AllReadyH.nil
  go_simp
  refine (step_any 2 2 4 0 2 1 0 0 0 a v ((M0 48).store 0 4) _ hT.s.m).mono ?_; rw [E1.out]; unfold bumpV; dsimp only; rintro r wT ⟨rfl, hmT, hkT⟩; (try (have hb := hb.keep hkT hnb; obtain ⟨⟨b0, b1, b2, b3⟩, g0, g1, g2, g3, gz⟩ := hb.cells)); have hT := hT.turnS hmT hkT; have hm := HBm.out _ hT.s.kp; (try go_wp2_with fail)
  refine hkC.out _ _ ?_ (fun hHeld => ?_)
  · exact (hm)
  clear hkC kC
  try simp only [Act.put, List.setIfInBounds_toArray, List.set_cons_zero, List.set_cons_succ]
  refine wpAnyH_ready (rs := [5]) (by kernel_rfl) (by simp) ?_
  refine AllReadyH.cons (by simp only [List.getElem?_toArray, List.getElem?_cons_succ, List.getElem?_cons_zero]; rfl) (fun kC hkC => ?_) AllReadyH.nil
  go_simp
  refine hkC.out _ _ ?_ (fun hHeld => ?_)
  · exact ((HBm.out _ (by first | exact hT0.s.kp.alloc _ | (repeat (first | (with_reducible exact hT.s.kp) | refine Keeps.setN hgw ?_ _ _)))))
  clear hkC kC
  try simp only [Act.put, List.setIfInBounds_toArray, List.set_cons_zero, List.set_cons_succ]
  refine wpAnyH_done (by kernel_rfl) ?_ _
  rotate_left
  go_simp
  have hT0 := hT; obtain ⟨hb, hnb, hgw, hT⟩ := hT.bumpNew 65; have hm := HBm.out _ hT.s.kp; obtain ⟨⟨b0, b1, b2, b3⟩, g0, g1, g2, g3, gz⟩ := hb.cells
  refine hkC.out _ _ ?_ (fun hHeld => ?_)
  · exact (hm)
  clear hkC kC
  try simp only [Act.put, List.setIfInBounds_toArray, List.set_cons_zero, List.set_cons_succ]
  refine wpAnyH_ready (rs := [2]) (by kernel_rfl) (by simp) ?_
  refine AllReadyH.cons (by simp only [List.getElem?_toArray, List.getElem?_cons_succ, List.getElem?_cons_zero]; rfl) (fun kC hkC => ?_) AllReadyH.nil
  go_simp
  refine (start_any 1 1 _).mono ?_; rw [start11]; rintro r wS ⟨rfl, hkS⟩; have hT := hT.keep hkS; have hm := HBm.out _ hT.s.kp; (try (have hb := hb.keep hkS (fun f => f))); (try go_wp2_with fail)
  refine hkC.out _ _ ?_ (fun hHeld => ?_)
  · exact (hm)
  clear hkC kC
  try simp only [Act.put, List.setIfInBounds_toArray, List.set_cons_zero, List.set_cons_succ]
  refine wpAnyH_ready (rs := [3]) (by kernel_rfl) (by simp) ?_
  refine AllReadyH.cons (by simp only [List.getElem?_toArray, List.getElem?_cons_succ, List.getElem?_cons_zero]; rfl) (fun kC hkC => ?_) AllReadyH.nil
  go_simp
  refine (step_any 2 2 4 0 2 1 0 0 0 a v ((M0 48).store 0 4) _ hT.s.m).mono ?_; rw [E1.out]; unfold bumpV; dsimp only; rintro r wT ⟨rfl, hmT, hkT⟩; (try (have hb := hb.keep hkT hnb; obtain ⟨⟨b0, b1, b2, b3⟩, g0, g1, g2, g3, gz⟩ := hb.cells)); have hT := hT.turnS hmT hkT; have hm := HBm.out _ hT.s.kp; (try go_wp2_with fail)
  refine hkC.out _ _ ?_ (fun hHeld => ?_)
  · exact (hm)
  clear hkC kC
  try simp only [Act.put, List.setIfInBounds_toArray, List.set_cons_zero, List.set_cons_succ]
  refine wpAnyH_ready (rs := [5]) (by kernel_rfl) (by simp) ?_
  refine AllReadyH.cons (by simp only [List.getElem?_toArray, List.getElem?_cons_succ, List.getElem?_cons_zero]; rfl) (fun kC hkC => ?_) AllReadyH.nil
  go_simp
  refine hkC.out _ _ ?_ (fun hHeld => ?_)
  · exact ((HBm.out _ (by first | exact hT0.s.kp.alloc _ | (repeat (first | (with_reducible exact hT.s.kp) | refine Keeps.setN hgw ?_ _ _)))))
  clear hkC kC
  try simp only [Act.put, List.setIfInBounds_toArray, List.set_cons_zero, List.set_cons_succ]
  refine wpAnyH_done (by kernel_rfl) ?_ _
  rotate_left
  all_goals
    go_wp2_with (first
      | (go_at_call 26; refine (steps_any a v M2 _ (by first | exact hT0.s.m.keep ((Keeps.refl NoS _).alloc _) (fun f => f) (fun _ _ f => f) | (repeat (first | (with_reducible exact hT.s.m) | refine MemT.setN hnb ?_ _ _)))).mono ?_; rw [e2]; rintro e w7 ⟨rfl, rfl⟩)
      | (go_at_call 55; refine (over_any _ _ _).mono ?_; rintro e w8 ⟨rfl, rfl⟩))
    go_ret
    exact ⟨rfl, HWk.out.trans (by first | exact hT0.s.kp.alloc _ | (repeat (first | (with_reducible exact hT.s.kp) | refine Keeps.setN hgw ?_ _ _)))⟩
end Go.Proofs.Ytodaiogefgdcpaa
