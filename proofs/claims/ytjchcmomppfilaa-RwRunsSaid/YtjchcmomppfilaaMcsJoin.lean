/- mcs.join at layer 8's map: a hand's node is put behind the queue. -/
import Derived.Test.YtjchcmomppfilaaMcs
import Derived.Test.YtjchcmomppfilaaBx
namespace Go.Proofs.Ytjchcmomppfilaa
open Go.RowKit
def mJoin (M : MemS) (t l : Nat) (s : Int) (r : Bool) (x : Int) : MemS × HandS :=
  (M.swap (tlA l) x (idA t l), if M.word (tlA l) = x then (if x = 0 then ⟨t, l, 9, r, x⟩ else ⟨t, l, 4, r, x⟩) else ⟨t, l, s, r, M.word (tlA l)⟩)
theorem tlA_lt {l : Nat} (hl : l < 2) : tlA l < 48 := by unfold tlA; omega
theorem ndA_lt {t l p : Nat} (ht : t < 4) (hl : l < 2) (hp : p < 2) : ndA t l p < 48 := by unfold ndA; omega
theorem Bx.two {B : Nat} {t l s : Int} {r : Bool} {x : Int} {w : World} (h : Bx B 2 2 4 0 2 t l s r x w) : (w.cell? ⟨B, 0, none⟩ = some (.int .i64 2) ∧ w.cell? ⟨B, 1, none⟩ = some (.int .i64 2) ∧ w.cell? ⟨B, 2, none⟩ = some (.int .i64 4) ∧ w.cell? ⟨B, 3, none⟩ = some (.int .i64 0) ∧ w.cell? ⟨B, 4, none⟩ = some (.int .i64 2)) ∧ (w.cell? ⟨(B + 1), 0, none⟩ = some (.int .i64 t) ∧ w.cell? ⟨(B + 1), 1, none⟩ = some (.int .i64 l) ∧ w.cell? ⟨(B + 1), 2, none⟩ = some (.int .i64 s) ∧ w.cell? ⟨(B + 1), 3, none⟩ = some (.bool r) ∧ w.cell? ⟨(B + 1), 4, none⟩ = some (.int .i64 x)) := ⟨h.facts.1, h.facts.2.1⟩
set_option maxHeartbeats 4000000 in
set_option maxRecDepth 100000 in
theorem join8_any (t l : Nat) (s : Int) (r : Bool) (x : Int) (a : Nat) (v : Value) (M : MemS) (w : World) (ht : t < 4) (hl : l < 2) (hA : MemAt w a v M) (hl48 : M.L.length = 48) : Calls Try.prog 52 #[.agg #[.int .i64 2, .int .i64 2, .int .i64 4, .int .i64 0, .int .i64 2], .pointer (some ⟨a, 0, none⟩), .agg #[.int .i64 t, .int .i64 l, .int .i64 s, .bool r, .int .i64 x]] w fun e w' => e = .returned (handV (mJoin M t l s r x).2) ∧ MemAt w' a v (mJoin M t l s r x).1 ∧ Keeps (own2m a v) w w' := by
  obtain ⟨c, hc⟩ : ∃ c, M.word (tlA l) = c := ⟨_, rfl⟩
  have hlt : tlA l < M.L.length := by rw [hl48]; exact tlA_lt hl
  have HLT := Lib.hid hlt
  obtain ⟨A, hAA⟩ : ∃ A : Int, ((tlA l : Nat) : Int) = A := ⟨_, rfl⟩
  have hlk := tlA_eq hl
  rw [hAA] at hlk
  have HLK := Lib.hid hlk; have HAA := Lib.hid hAA
  clear hlt hlk hAA
  have hbx := bx_new w 2 2 4 0 2 t l s r x 24
  have hk : Keeps NoS w (((w.alloc (.cells #[.int .i64 2, .int .i64 2, .int .i64 4, .int .i64 0, .int .i64 2] 24)).alloc (.cells #[.int .i64 t, .int .i64 l, .int .i64 s, .bool r, .int .i64 x] 37)).alloc (.cells #[.int .i64 0, .int .i64 0, .int .i64 0, .bool false, .int .i64 0] 37)) := (((Keeps.refl NoS w).alloc _).alloc _).alloc _
  have ha := blk_lt hA.hd
  have hv : ∀ g, v.ownBlock = some g → g < w.heap.size := fun g hg => hA.own_lt hg
  have hA2 := hA.keep hk (fun f => f) (fun _ _ f => f)
  obtain ⟨B, hB⟩ : ∃ B, w.heap.size = B := ⟨_, rfl⟩
  rw [hB] at hbx hv ha
  have HB := Lib.hid hB; have HA2 := Lib.hid hA2; have HK := Lib.hid hk; have HV := Lib.hid hv; have HBX := Lib.hid hbx; have HL := Lib.hid hl48
  clear hB hA2 hk hv hbx hl48 hA
  by_cases hcx : c = x
  · have hq : (M.word (tlA l) == x) = true := by rw [hc]; simpa using hcx
    have HQ := Lib.hid hq; have HC := Lib.hid hc; have HCX := Lib.hid hcx
    by_cases hx0 : x = 0
    · rw [show mJoin M t l s r x = (M.swap (tlA l) x (idA t l), ⟨t, l, 9, r, x⟩) by unfold mJoin; rw [hc, if_pos hcx, if_pos hx0]]
      clear hq hc hcx
      have hx1 : (x == 0) = true := by simpa using hx0
      clear hx0
      have HID := Lib.hid (fun W => id8_any t l ht hl W)
      generalize idA t l = y at *
      unfold handV
      dsimp only
      go_enter Try.func52, Try.ntmps52
      go_wp2_with fail
      rw [HB.out]
      generalize ((w.alloc (.cells #[.int .i64 2, .int .i64 2, .int .i64 4, .int .i64 0, .int .i64 2] 24)).alloc (.cells #[.int .i64 t, .int .i64 l, .int .i64 s, .bool r, .int .i64 x] 37)).alloc (.cells #[.int .i64 0, .int .i64 0, .int .i64 0, .bool false, .int .i64 0] 37) = wa at *
      have hbd := HBX.out.no ((Keeps.refl NoS wa).drew)
      have had := HA2.out.keep ((Keeps.refl NoS wa).drew) (fun f => f) (fun _ _ f => f)
      refine wp_region_held_drew (S := (fun w' => (w'.cell? ⟨B, 0, none⟩ = some (.int .i64 2) ∧ w'.cell? ⟨B, 1, none⟩ = some (.int .i64 2) ∧ w'.cell? ⟨B, 2, none⟩ = some (.int .i64 4) ∧ w'.cell? ⟨B, 3, none⟩ = some (.int .i64 0) ∧ w'.cell? ⟨B, 4, none⟩ = some (.int .i64 2)) ∧ (w'.cell? ⟨(B + 1), 0, none⟩ = some (.int .i64 t) ∧ w'.cell? ⟨(B + 1), 1, none⟩ = some (.int .i64 l) ∧ w'.cell? ⟨(B + 1), 2, none⟩ = some (.int .i64 s) ∧ w'.cell? ⟨(B + 1), 3, none⟩ = some (.bool r) ∧ w'.cell? ⟨(B + 1), 4, none⟩ = some (.int .i64 x)))) (by kernel_rfl) (hbd.two) (fun hHeld => ?_)
      refine wpAnyH_take (i := 0) (v := ?_) (by simp only [List.getElem?_toArray, List.getElem?_cons_succ, List.getElem?_cons_zero]; rfl) (by kernel_rfl) (by kernel_rfl) (by kernel_rfl) (by exact fun _ _ _ h => h) (Or.inl ⟨by rfl, ?_⟩) hHeld ?_
      rotate_left
      · intro w hSw; (try dsimp only at hSw); go_simp; (try with_reducible rfl)
      try simp only [Act.put, List.setIfInBounds_toArray, List.set_cons_zero, List.set_cons_succ]
      refine wpAnyH_take (i := 1) (v := ?_) (by simp only [List.getElem?_toArray, List.getElem?_cons_succ, List.getElem?_cons_zero]; rfl) (by kernel_rfl) (by kernel_rfl) (by kernel_rfl) (by exact fun _ _ _ h => h) (Or.inl ⟨by rfl, ?_⟩) hHeld ?_
      rotate_left
      · intro w hSw; (try dsimp only at hSw); go_simp; (try with_reducible rfl)
      try simp only [Act.put, List.setIfInBounds_toArray, List.set_cons_zero, List.set_cons_succ]
      refine wpAnyH_take (i := 2) (v := ?_) (by simp only [List.getElem?_toArray, List.getElem?_cons_succ, List.getElem?_cons_zero]; rfl) (by kernel_rfl) (by kernel_rfl) (by kernel_rfl) (by exact fun _ _ _ h => h) (Or.inl ⟨by rfl, ?_⟩) hHeld ?_
      rotate_left
      · intro w hSw; (try dsimp only at hSw); go_simp; (try with_reducible rfl)
      try simp only [Act.put, List.setIfInBounds_toArray, List.set_cons_zero, List.set_cons_succ]
      refine wpAnyH_take (i := 3) (v := ?_) (by simp only [List.getElem?_toArray, List.getElem?_cons_succ, List.getElem?_cons_zero]; rfl) (by kernel_rfl) (by kernel_rfl) (by kernel_rfl) (by exact fun _ _ _ h => h) (Or.inl ⟨by rfl, ?_⟩) hHeld ?_
      rotate_left
      · intro w hSw; (try dsimp only at hSw); go_simp; (try with_reducible rfl)
      try simp only [Act.put, List.setIfInBounds_toArray, List.set_cons_zero, List.set_cons_succ]
      refine wpAnyH_take (i := 5) (v := ?_) (by simp only [List.getElem?_toArray, List.getElem?_cons_succ, List.getElem?_cons_zero]; rfl) (by kernel_rfl) (by kernel_rfl) (by kernel_rfl) (by exact fun _ _ _ h => h) (Or.inl ⟨by rfl, ?_⟩) hHeld ?_
      rotate_left
      · intro w hSw; (try dsimp only at hSw); go_simp; (try with_reducible rfl)
      try simp only [Act.put, List.setIfInBounds_toArray, List.set_cons_zero, List.set_cons_succ]
      refine wpAnyH_take (i := 6) (v := ?_) (by simp only [List.getElem?_toArray, List.getElem?_cons_succ, List.getElem?_cons_zero]; rfl) (by kernel_rfl) (by kernel_rfl) (by kernel_rfl) (by exact fun _ _ _ h => h) (Or.inl ⟨by rfl, ?_⟩) hHeld ?_
      rotate_left
      · intro w hSw; (try dsimp only at hSw); go_simp; (try with_reducible rfl)
      try simp only [Act.put, List.setIfInBounds_toArray, List.set_cons_zero, List.set_cons_succ]
      refine wpAnyH_take (i := 7) (v := ?_) (by simp only [List.getElem?_toArray, List.getElem?_cons_succ, List.getElem?_cons_zero]; rfl) (by kernel_rfl) (by kernel_rfl) (by kernel_rfl) (by exact fun _ _ _ h => h) (Or.inl ⟨by rfl, ?_⟩) hHeld ?_
      rotate_left
      · intro w hSw; (try dsimp only at hSw); go_simp; (try with_reducible rfl)
      try simp only [Act.put, List.setIfInBounds_toArray, List.set_cons_zero, List.set_cons_succ]
      refine wpAnyH_take (i := 8) (v := ?_) (by simp only [List.getElem?_toArray, List.getElem?_cons_succ, List.getElem?_cons_zero]; rfl) (by kernel_rfl) (by kernel_rfl) (by kernel_rfl) (by exact fun _ _ _ h => h) (Or.inl ⟨by rfl, ?_⟩) hHeld ?_
      rotate_left
      · intro w hSw; (try dsimp only at hSw); go_simp; (try with_reducible rfl)
      try simp only [Act.put, List.setIfInBounds_toArray, List.set_cons_zero, List.set_cons_succ]
      refine wpAnyH_take (i := 9) (v := ?_) (by simp only [List.getElem?_toArray, List.getElem?_cons_succ, List.getElem?_cons_zero]; rfl) (by kernel_rfl) (by kernel_rfl) (by kernel_rfl) (by exact fun _ _ _ h => h) (Or.inl ⟨by rfl, ?_⟩) hHeld ?_
      rotate_left
      · intro w hSw; (try dsimp only at hSw); go_simp; (try with_reducible rfl)
      try simp only [Act.put, List.setIfInBounds_toArray, List.set_cons_zero, List.set_cons_succ]
      refine wpAnyH_take (i := 10) (v := ?_) (by simp only [List.getElem?_toArray, List.getElem?_cons_succ, List.getElem?_cons_zero]; rfl) (by kernel_rfl) (by kernel_rfl) (by kernel_rfl) (by exact fun _ _ _ h => h) (Or.inl ⟨by rfl, ?_⟩) hHeld ?_
      rotate_left
      · intro w hSw; (try dsimp only at hSw); go_simp; (try with_reducible rfl)
      try simp only [Act.put, List.setIfInBounds_toArray, List.set_cons_zero, List.set_cons_succ]
      refine wpAnyH_take (i := 11) (v := ?_) (by simp only [List.getElem?_toArray, List.getElem?_cons_succ, List.getElem?_cons_zero]; rfl) (by kernel_rfl) (by kernel_rfl) (by kernel_rfl) (by exact fun _ _ _ h => h) (Or.inl ⟨by rfl, ?_⟩) hHeld ?_
      rotate_left
      · intro w hSw; (try dsimp only at hSw); go_simp; (try with_reducible rfl)
      try simp only [Act.put, List.setIfInBounds_toArray, List.set_cons_zero, List.set_cons_succ]
      refine wpAnyH_ready (rs := [4]) (by kernel_rfl) (by simp) ?_
      refine AllReadyH.cons (by simp only [List.getElem?_toArray, List.getElem?_cons_succ, List.getElem?_cons_zero]; rfl) (fun kC hkC => ?_) AllReadyH.nil
      go_simp
      refine (lock_lit 2 2 4 0 2 l 0 A HLK.out _).mono ?_; rintro e w1 ⟨rfl, hk1⟩; have hb1 := hbd.no hk1; have ha1 := had.keep hk1 (fun f => f) (fun _ _ f => f)
      (try go_wp2_with fail)
      refine hkC.out _ _ (hb1.two) (fun hHeld => ?_)
      clear hkC kC
      try simp only [Act.put, List.setIfInBounds_toArray, List.set_cons_zero, List.set_cons_succ]
      refine wpAnyH_ready (rs := [12]) (by kernel_rfl) (by simp) ?_
      refine AllReadyH.cons (by simp only [List.getElem?_toArray, List.getElem?_cons_succ, List.getElem?_cons_zero]; rfl) (fun kC hkC => ?_) AllReadyH.nil
      go_simp
      refine (HID.out _).mono ?_; rintro e w2 ⟨rfl, hk2⟩; have hb2 := hb1.no hk2; have ha2 := ha1.keep hk2 (fun f => f) (fun _ _ f => f)
      (try go_wp2_with fail)
      refine hkC.out _ _ (hb2.two) (fun hHeld => ?_)
      clear hkC kC
      try simp only [Act.put, List.setIfInBounds_toArray, List.set_cons_zero, List.set_cons_succ]
      refine wpAnyH_ready (rs := [13]) (by kernel_rfl) (by simp) ?_
      refine AllReadyH.cons (by simp only [List.getElem?_toArray, List.getElem?_cons_succ, List.getElem?_cons_zero]; rfl) (fun kC hkC => ?_) AllReadyH.nil
      go_simp
      rw [← HAA.out]; refine (swap_yes a v M (tlA l) x y _ ha2 HLT.out HQ.out).mono ?_; rw [HC.out]; rintro e w3 ⟨rfl, hm, hk3⟩; have hb3 := hb2.own hk3 ha HV.out
      (try go_wp2_with fail)
      refine hkC.out _ _ (hb3.two) (fun hHeld => ?_)
      clear hkC kC
      try simp only [Act.put, List.setIfInBounds_toArray, List.set_cons_zero, List.set_cons_succ]
      refine wpAnyH_take (i := 14) (v := ?_) (by simp only [List.getElem?_toArray, List.getElem?_cons_succ, List.getElem?_cons_zero]; rfl) (by kernel_rfl) (by kernel_rfl) (by kernel_rfl) (by exact fun _ _ _ h => h) (Or.inl ⟨by rfl, ?_⟩) hHeld ?_
      rotate_left
      · intro w hSw; (try dsimp only at hSw); go_simp; (try with_reducible rfl)
      try simp only [Act.put, List.setIfInBounds_toArray, List.set_cons_zero, List.set_cons_succ]
      refine wpAnyH_take (i := 15) (v := ?_) (by simp only [List.getElem?_toArray, List.getElem?_cons_succ, List.getElem?_cons_zero]; rfl) (by kernel_rfl) (by kernel_rfl) (by kernel_rfl) (by exact fun _ _ _ h => h) (Or.inl ⟨by rfl, ?_⟩) hHeld ?_
      rotate_left
      · intro w hSw; (try dsimp only at hSw); go_simp; (try with_reducible rfl)
      try simp only [Act.put, List.setIfInBounds_toArray, List.set_cons_zero, List.set_cons_succ]
      refine wpAnyH_take (i := 16) (v := ?_) (by simp only [List.getElem?_toArray, List.getElem?_cons_succ, List.getElem?_cons_zero]; rfl) (by kernel_rfl) (by kernel_rfl) (by kernel_rfl) (by exact fun _ _ _ h => h) (Or.inl ⟨by rfl, ?_⟩) hHeld ?_
      rotate_left
      · intro w hSw; (try dsimp only at hSw); go_simp; (try with_reducible rfl)
      try simp only [Act.put, List.setIfInBounds_toArray, List.set_cons_zero, List.set_cons_succ]
      refine wpAnyH_take (i := 17) (v := ?_) (by simp only [List.getElem?_toArray, List.getElem?_cons_succ, List.getElem?_cons_zero]; rfl) (by kernel_rfl) (by kernel_rfl) (by kernel_rfl) (by exact fun _ _ _ h => h) (Or.inl ⟨by rfl, ?_⟩) hHeld ?_
      rotate_left
      · intro w hSw; (try dsimp only at hSw); go_simp; (try with_reducible rfl)
      try simp only [Act.put, List.setIfInBounds_toArray, List.set_cons_zero, List.set_cons_succ]
      refine wpAnyH_take (i := 18) (v := ?_) (by simp only [List.getElem?_toArray, List.getElem?_cons_succ, List.getElem?_cons_zero]; rfl) (by kernel_rfl) (by kernel_rfl) (by kernel_rfl) (by exact fun _ _ _ h => h) (Or.inl ⟨by rfl, ?_⟩) hHeld ?_
      rotate_left
      · intro w hSw; (try dsimp only at hSw); go_simp; (try with_reducible rfl)
      try simp only [Act.put, List.setIfInBounds_toArray, List.set_cons_zero, List.set_cons_succ]
      refine wpAnyH_take (i := 19) (v := ?_) (by simp only [List.getElem?_toArray, List.getElem?_cons_succ, List.getElem?_cons_zero]; rfl) (by kernel_rfl) (by kernel_rfl) (by kernel_rfl) (by exact fun _ _ _ h => h) (Or.inl ⟨by rfl, ?_⟩) hHeld ?_
      rotate_left
      · intro w hSw; (try dsimp only at hSw); go_simp; (try with_reducible rfl)
      try simp only [Act.put, List.setIfInBounds_toArray, List.set_cons_zero, List.set_cons_succ]
      refine wpAnyH_take (i := 20) (v := ?_) (by simp only [List.getElem?_toArray, List.getElem?_cons_succ, List.getElem?_cons_zero]; rfl) (by kernel_rfl) (by kernel_rfl) (by kernel_rfl) (by exact fun _ _ _ h => h) (Or.inl ⟨by rfl, ?_⟩) hHeld ?_
      rotate_left
      · intro w hSw; (try dsimp only at hSw); go_simp; (try with_reducible rfl)
      try simp only [Act.put, List.setIfInBounds_toArray, List.set_cons_zero, List.set_cons_succ]
      refine wpAnyH_done (by kernel_rfl) ?_ _
      obtain ⟨⟨m0, m1, m2, m3, m4⟩, ⟨c0, c1, c2, c3, c4⟩, ⟨r0, r1, r2, r3, r4⟩, ⟨f0, f1, f2, f3, f4⟩, ⟨g0, g1, g2, g3, g4⟩, z1, z2⟩ := hb3.facts
      have hkk : Keeps (own2m a v) w w3 := ((((HK.out.trans (Keeps.refl NoS wa).drew).trans hk1).trans hk2).no).trans hk3
      clear hb3 hb2 hb1 hbd had ha1 ha2
      go_wp2_with fail
      refine bodyPost_ret (v := .agg #[.int .i64 t, .int .i64 l, .int .i64 9, .bool r, .int .i64 x]) (by simp [results, Try.results52, go_sem, *]) rfl ⟨rfl, ?_, ?_⟩
      · repeat (first | (with_reducible exact hm) | refine MemT.set (B := B) ?_ ha HV.out _ (by show B ≤ _; dsimp only; omega) _)
      · repeat (first | (with_reducible exact hkk) | refine kset HB.out ?_ _ (by show B ≤ _; dsimp only; omega) _)
    · rw [show mJoin M t l s r x = (M.swap (tlA l) x (idA t l), ⟨t, l, 4, r, x⟩) by unfold mJoin; rw [hc, if_pos hcx, if_neg hx0]]
      clear hq hc hcx
      have hx1 : (x == 0) = false := by simpa using hx0
      clear hx0
      have HID := Lib.hid (fun W => id8_any t l ht hl W)
      generalize idA t l = y at *
      unfold handV
      dsimp only
      go_enter Try.func52, Try.ntmps52
      go_wp2_with fail
      rw [HB.out]
      generalize ((w.alloc (.cells #[.int .i64 2, .int .i64 2, .int .i64 4, .int .i64 0, .int .i64 2] 24)).alloc (.cells #[.int .i64 t, .int .i64 l, .int .i64 s, .bool r, .int .i64 x] 37)).alloc (.cells #[.int .i64 0, .int .i64 0, .int .i64 0, .bool false, .int .i64 0] 37) = wa at *
      have hbd := HBX.out.no ((Keeps.refl NoS wa).drew)
      have had := HA2.out.keep ((Keeps.refl NoS wa).drew) (fun f => f) (fun _ _ f => f)
      refine wp_region_held_drew (S := (fun w' => (w'.cell? ⟨B, 0, none⟩ = some (.int .i64 2) ∧ w'.cell? ⟨B, 1, none⟩ = some (.int .i64 2) ∧ w'.cell? ⟨B, 2, none⟩ = some (.int .i64 4) ∧ w'.cell? ⟨B, 3, none⟩ = some (.int .i64 0) ∧ w'.cell? ⟨B, 4, none⟩ = some (.int .i64 2)) ∧ (w'.cell? ⟨(B + 1), 0, none⟩ = some (.int .i64 t) ∧ w'.cell? ⟨(B + 1), 1, none⟩ = some (.int .i64 l) ∧ w'.cell? ⟨(B + 1), 2, none⟩ = some (.int .i64 s) ∧ w'.cell? ⟨(B + 1), 3, none⟩ = some (.bool r) ∧ w'.cell? ⟨(B + 1), 4, none⟩ = some (.int .i64 x)))) (by kernel_rfl) (hbd.two) (fun hHeld => ?_)
      refine wpAnyH_take (i := 0) (v := ?_) (by simp only [List.getElem?_toArray, List.getElem?_cons_succ, List.getElem?_cons_zero]; rfl) (by kernel_rfl) (by kernel_rfl) (by kernel_rfl) (by exact fun _ _ _ h => h) (Or.inl ⟨by rfl, ?_⟩) hHeld ?_
      rotate_left
      · intro w hSw; (try dsimp only at hSw); go_simp; (try with_reducible rfl)
      try simp only [Act.put, List.setIfInBounds_toArray, List.set_cons_zero, List.set_cons_succ]
      refine wpAnyH_take (i := 1) (v := ?_) (by simp only [List.getElem?_toArray, List.getElem?_cons_succ, List.getElem?_cons_zero]; rfl) (by kernel_rfl) (by kernel_rfl) (by kernel_rfl) (by exact fun _ _ _ h => h) (Or.inl ⟨by rfl, ?_⟩) hHeld ?_
      rotate_left
      · intro w hSw; (try dsimp only at hSw); go_simp; (try with_reducible rfl)
      try simp only [Act.put, List.setIfInBounds_toArray, List.set_cons_zero, List.set_cons_succ]
      refine wpAnyH_take (i := 2) (v := ?_) (by simp only [List.getElem?_toArray, List.getElem?_cons_succ, List.getElem?_cons_zero]; rfl) (by kernel_rfl) (by kernel_rfl) (by kernel_rfl) (by exact fun _ _ _ h => h) (Or.inl ⟨by rfl, ?_⟩) hHeld ?_
      rotate_left
      · intro w hSw; (try dsimp only at hSw); go_simp; (try with_reducible rfl)
      try simp only [Act.put, List.setIfInBounds_toArray, List.set_cons_zero, List.set_cons_succ]
      refine wpAnyH_take (i := 3) (v := ?_) (by simp only [List.getElem?_toArray, List.getElem?_cons_succ, List.getElem?_cons_zero]; rfl) (by kernel_rfl) (by kernel_rfl) (by kernel_rfl) (by exact fun _ _ _ h => h) (Or.inl ⟨by rfl, ?_⟩) hHeld ?_
      rotate_left
      · intro w hSw; (try dsimp only at hSw); go_simp; (try with_reducible rfl)
      try simp only [Act.put, List.setIfInBounds_toArray, List.set_cons_zero, List.set_cons_succ]
      refine wpAnyH_take (i := 5) (v := ?_) (by simp only [List.getElem?_toArray, List.getElem?_cons_succ, List.getElem?_cons_zero]; rfl) (by kernel_rfl) (by kernel_rfl) (by kernel_rfl) (by exact fun _ _ _ h => h) (Or.inl ⟨by rfl, ?_⟩) hHeld ?_
      rotate_left
      · intro w hSw; (try dsimp only at hSw); go_simp; (try with_reducible rfl)
      try simp only [Act.put, List.setIfInBounds_toArray, List.set_cons_zero, List.set_cons_succ]
      refine wpAnyH_take (i := 6) (v := ?_) (by simp only [List.getElem?_toArray, List.getElem?_cons_succ, List.getElem?_cons_zero]; rfl) (by kernel_rfl) (by kernel_rfl) (by kernel_rfl) (by exact fun _ _ _ h => h) (Or.inl ⟨by rfl, ?_⟩) hHeld ?_
      rotate_left
      · intro w hSw; (try dsimp only at hSw); go_simp; (try with_reducible rfl)
      try simp only [Act.put, List.setIfInBounds_toArray, List.set_cons_zero, List.set_cons_succ]
      refine wpAnyH_take (i := 7) (v := ?_) (by simp only [List.getElem?_toArray, List.getElem?_cons_succ, List.getElem?_cons_zero]; rfl) (by kernel_rfl) (by kernel_rfl) (by kernel_rfl) (by exact fun _ _ _ h => h) (Or.inl ⟨by rfl, ?_⟩) hHeld ?_
      rotate_left
      · intro w hSw; (try dsimp only at hSw); go_simp; (try with_reducible rfl)
      try simp only [Act.put, List.setIfInBounds_toArray, List.set_cons_zero, List.set_cons_succ]
      refine wpAnyH_take (i := 8) (v := ?_) (by simp only [List.getElem?_toArray, List.getElem?_cons_succ, List.getElem?_cons_zero]; rfl) (by kernel_rfl) (by kernel_rfl) (by kernel_rfl) (by exact fun _ _ _ h => h) (Or.inl ⟨by rfl, ?_⟩) hHeld ?_
      rotate_left
      · intro w hSw; (try dsimp only at hSw); go_simp; (try with_reducible rfl)
      try simp only [Act.put, List.setIfInBounds_toArray, List.set_cons_zero, List.set_cons_succ]
      refine wpAnyH_take (i := 9) (v := ?_) (by simp only [List.getElem?_toArray, List.getElem?_cons_succ, List.getElem?_cons_zero]; rfl) (by kernel_rfl) (by kernel_rfl) (by kernel_rfl) (by exact fun _ _ _ h => h) (Or.inl ⟨by rfl, ?_⟩) hHeld ?_
      rotate_left
      · intro w hSw; (try dsimp only at hSw); go_simp; (try with_reducible rfl)
      try simp only [Act.put, List.setIfInBounds_toArray, List.set_cons_zero, List.set_cons_succ]
      refine wpAnyH_take (i := 10) (v := ?_) (by simp only [List.getElem?_toArray, List.getElem?_cons_succ, List.getElem?_cons_zero]; rfl) (by kernel_rfl) (by kernel_rfl) (by kernel_rfl) (by exact fun _ _ _ h => h) (Or.inl ⟨by rfl, ?_⟩) hHeld ?_
      rotate_left
      · intro w hSw; (try dsimp only at hSw); go_simp; (try with_reducible rfl)
      try simp only [Act.put, List.setIfInBounds_toArray, List.set_cons_zero, List.set_cons_succ]
      refine wpAnyH_take (i := 11) (v := ?_) (by simp only [List.getElem?_toArray, List.getElem?_cons_succ, List.getElem?_cons_zero]; rfl) (by kernel_rfl) (by kernel_rfl) (by kernel_rfl) (by exact fun _ _ _ h => h) (Or.inl ⟨by rfl, ?_⟩) hHeld ?_
      rotate_left
      · intro w hSw; (try dsimp only at hSw); go_simp; (try with_reducible rfl)
      try simp only [Act.put, List.setIfInBounds_toArray, List.set_cons_zero, List.set_cons_succ]
      refine wpAnyH_ready (rs := [4]) (by kernel_rfl) (by simp) ?_
      refine AllReadyH.cons (by simp only [List.getElem?_toArray, List.getElem?_cons_succ, List.getElem?_cons_zero]; rfl) (fun kC hkC => ?_) AllReadyH.nil
      go_simp
      refine (lock_lit 2 2 4 0 2 l 0 A HLK.out _).mono ?_; rintro e w1 ⟨rfl, hk1⟩; have hb1 := hbd.no hk1; have ha1 := had.keep hk1 (fun f => f) (fun _ _ f => f)
      (try go_wp2_with fail)
      refine hkC.out _ _ (hb1.two) (fun hHeld => ?_)
      clear hkC kC
      try simp only [Act.put, List.setIfInBounds_toArray, List.set_cons_zero, List.set_cons_succ]
      refine wpAnyH_ready (rs := [12]) (by kernel_rfl) (by simp) ?_
      refine AllReadyH.cons (by simp only [List.getElem?_toArray, List.getElem?_cons_succ, List.getElem?_cons_zero]; rfl) (fun kC hkC => ?_) AllReadyH.nil
      go_simp
      refine (HID.out _).mono ?_; rintro e w2 ⟨rfl, hk2⟩; have hb2 := hb1.no hk2; have ha2 := ha1.keep hk2 (fun f => f) (fun _ _ f => f)
      (try go_wp2_with fail)
      refine hkC.out _ _ (hb2.two) (fun hHeld => ?_)
      clear hkC kC
      try simp only [Act.put, List.setIfInBounds_toArray, List.set_cons_zero, List.set_cons_succ]
      refine wpAnyH_ready (rs := [13]) (by kernel_rfl) (by simp) ?_
      refine AllReadyH.cons (by simp only [List.getElem?_toArray, List.getElem?_cons_succ, List.getElem?_cons_zero]; rfl) (fun kC hkC => ?_) AllReadyH.nil
      go_simp
      rw [← HAA.out]; refine (swap_yes a v M (tlA l) x y _ ha2 HLT.out HQ.out).mono ?_; rw [HC.out]; rintro e w3 ⟨rfl, hm, hk3⟩; have hb3 := hb2.own hk3 ha HV.out
      (try go_wp2_with fail)
      refine hkC.out _ _ (hb3.two) (fun hHeld => ?_)
      clear hkC kC
      try simp only [Act.put, List.setIfInBounds_toArray, List.set_cons_zero, List.set_cons_succ]
      refine wpAnyH_take (i := 14) (v := ?_) (by simp only [List.getElem?_toArray, List.getElem?_cons_succ, List.getElem?_cons_zero]; rfl) (by kernel_rfl) (by kernel_rfl) (by kernel_rfl) (by exact fun _ _ _ h => h) (Or.inl ⟨by rfl, ?_⟩) hHeld ?_
      rotate_left
      · intro w hSw; (try dsimp only at hSw); go_simp; (try with_reducible rfl)
      try simp only [Act.put, List.setIfInBounds_toArray, List.set_cons_zero, List.set_cons_succ]
      refine wpAnyH_take (i := 15) (v := ?_) (by simp only [List.getElem?_toArray, List.getElem?_cons_succ, List.getElem?_cons_zero]; rfl) (by kernel_rfl) (by kernel_rfl) (by kernel_rfl) (by exact fun _ _ _ h => h) (Or.inl ⟨by rfl, ?_⟩) hHeld ?_
      rotate_left
      · intro w hSw; (try dsimp only at hSw); go_simp; (try with_reducible rfl)
      try simp only [Act.put, List.setIfInBounds_toArray, List.set_cons_zero, List.set_cons_succ]
      refine wpAnyH_take (i := 16) (v := ?_) (by simp only [List.getElem?_toArray, List.getElem?_cons_succ, List.getElem?_cons_zero]; rfl) (by kernel_rfl) (by kernel_rfl) (by kernel_rfl) (by exact fun _ _ _ h => h) (Or.inl ⟨by rfl, ?_⟩) hHeld ?_
      rotate_left
      · intro w hSw; (try dsimp only at hSw); go_simp; (try with_reducible rfl)
      try simp only [Act.put, List.setIfInBounds_toArray, List.set_cons_zero, List.set_cons_succ]
      refine wpAnyH_take (i := 17) (v := ?_) (by simp only [List.getElem?_toArray, List.getElem?_cons_succ, List.getElem?_cons_zero]; rfl) (by kernel_rfl) (by kernel_rfl) (by kernel_rfl) (by exact fun _ _ _ h => h) (Or.inl ⟨by rfl, ?_⟩) hHeld ?_
      rotate_left
      · intro w hSw; (try dsimp only at hSw); go_simp; (try with_reducible rfl)
      try simp only [Act.put, List.setIfInBounds_toArray, List.set_cons_zero, List.set_cons_succ]
      refine wpAnyH_take (i := 18) (v := ?_) (by simp only [List.getElem?_toArray, List.getElem?_cons_succ, List.getElem?_cons_zero]; rfl) (by kernel_rfl) (by kernel_rfl) (by kernel_rfl) (by exact fun _ _ _ h => h) (Or.inl ⟨by rfl, ?_⟩) hHeld ?_
      rotate_left
      · intro w hSw; (try dsimp only at hSw); go_simp; (try with_reducible rfl)
      try simp only [Act.put, List.setIfInBounds_toArray, List.set_cons_zero, List.set_cons_succ]
      refine wpAnyH_take (i := 19) (v := ?_) (by simp only [List.getElem?_toArray, List.getElem?_cons_succ, List.getElem?_cons_zero]; rfl) (by kernel_rfl) (by kernel_rfl) (by kernel_rfl) (by exact fun _ _ _ h => h) (Or.inl ⟨by rfl, ?_⟩) hHeld ?_
      rotate_left
      · intro w hSw; (try dsimp only at hSw); go_simp; (try with_reducible rfl)
      try simp only [Act.put, List.setIfInBounds_toArray, List.set_cons_zero, List.set_cons_succ]
      refine wpAnyH_take (i := 20) (v := ?_) (by simp only [List.getElem?_toArray, List.getElem?_cons_succ, List.getElem?_cons_zero]; rfl) (by kernel_rfl) (by kernel_rfl) (by kernel_rfl) (by exact fun _ _ _ h => h) (Or.inl ⟨by rfl, ?_⟩) hHeld ?_
      rotate_left
      · intro w hSw; (try dsimp only at hSw); go_simp; (try with_reducible rfl)
      try simp only [Act.put, List.setIfInBounds_toArray, List.set_cons_zero, List.set_cons_succ]
      refine wpAnyH_done (by kernel_rfl) ?_ _
      obtain ⟨⟨m0, m1, m2, m3, m4⟩, ⟨c0, c1, c2, c3, c4⟩, ⟨r0, r1, r2, r3, r4⟩, ⟨f0, f1, f2, f3, f4⟩, ⟨g0, g1, g2, g3, g4⟩, z1, z2⟩ := hb3.facts
      have hkk : Keeps (own2m a v) w w3 := ((((HK.out.trans (Keeps.refl NoS wa).drew).trans hk1).trans hk2).no).trans hk3
      clear hb3 hb2 hb1 hbd had ha1 ha2
      go_wp2_with fail
      refine bodyPost_ret (v := .agg #[.int .i64 t, .int .i64 l, .int .i64 4, .bool r, .int .i64 x]) (by simp [results, Try.results52, go_sem, *]) rfl ⟨rfl, ?_, ?_⟩
      · repeat (first | (with_reducible exact hm) | refine MemT.set (B := B) ?_ ha HV.out _ (by show B ≤ _; dsimp only; omega) _)
      · repeat (first | (with_reducible exact hkk) | refine kset HB.out ?_ _ (by show B ≤ _; dsimp only; omega) _)
  · have hq : (M.word (tlA l) == x) = false := by rw [hc]; simpa using hcx
    have HQ := Lib.hid hq; have HC := Lib.hid hc; have HCX := Lib.hid hcx
    rw [show mJoin M t l s r x = (M.swap (tlA l) x (idA t l), ⟨t, l, s, r, c⟩) by unfold mJoin; rw [hc, if_neg hcx]]
    clear hq hc hcx
    have HID := Lib.hid (fun W => id8_any t l ht hl W)
    generalize idA t l = y at *
    unfold handV
    dsimp only
    go_enter Try.func52, Try.ntmps52
    go_wp2_with fail
    rw [HB.out]
    generalize ((w.alloc (.cells #[.int .i64 2, .int .i64 2, .int .i64 4, .int .i64 0, .int .i64 2] 24)).alloc (.cells #[.int .i64 t, .int .i64 l, .int .i64 s, .bool r, .int .i64 x] 37)).alloc (.cells #[.int .i64 0, .int .i64 0, .int .i64 0, .bool false, .int .i64 0] 37) = wa at *
    have hbd := HBX.out.no ((Keeps.refl NoS wa).drew)
    have had := HA2.out.keep ((Keeps.refl NoS wa).drew) (fun f => f) (fun _ _ f => f)
    refine wp_region_held_drew (S := (fun w' => (w'.cell? ⟨B, 0, none⟩ = some (.int .i64 2) ∧ w'.cell? ⟨B, 1, none⟩ = some (.int .i64 2) ∧ w'.cell? ⟨B, 2, none⟩ = some (.int .i64 4) ∧ w'.cell? ⟨B, 3, none⟩ = some (.int .i64 0) ∧ w'.cell? ⟨B, 4, none⟩ = some (.int .i64 2)) ∧ (w'.cell? ⟨(B + 1), 0, none⟩ = some (.int .i64 t) ∧ w'.cell? ⟨(B + 1), 1, none⟩ = some (.int .i64 l) ∧ w'.cell? ⟨(B + 1), 2, none⟩ = some (.int .i64 s) ∧ w'.cell? ⟨(B + 1), 3, none⟩ = some (.bool r) ∧ w'.cell? ⟨(B + 1), 4, none⟩ = some (.int .i64 x)))) (by kernel_rfl) (hbd.two) (fun hHeld => ?_)
    refine wpAnyH_take (i := 0) (v := ?_) (by simp only [List.getElem?_toArray, List.getElem?_cons_succ, List.getElem?_cons_zero]; rfl) (by kernel_rfl) (by kernel_rfl) (by kernel_rfl) (by exact fun _ _ _ h => h) (Or.inl ⟨by rfl, ?_⟩) hHeld ?_
    rotate_left
    · intro w hSw; (try dsimp only at hSw); go_simp; (try with_reducible rfl)
    try simp only [Act.put, List.setIfInBounds_toArray, List.set_cons_zero, List.set_cons_succ]
    refine wpAnyH_take (i := 1) (v := ?_) (by simp only [List.getElem?_toArray, List.getElem?_cons_succ, List.getElem?_cons_zero]; rfl) (by kernel_rfl) (by kernel_rfl) (by kernel_rfl) (by exact fun _ _ _ h => h) (Or.inl ⟨by rfl, ?_⟩) hHeld ?_
    rotate_left
    · intro w hSw; (try dsimp only at hSw); go_simp; (try with_reducible rfl)
    try simp only [Act.put, List.setIfInBounds_toArray, List.set_cons_zero, List.set_cons_succ]
    refine wpAnyH_take (i := 2) (v := ?_) (by simp only [List.getElem?_toArray, List.getElem?_cons_succ, List.getElem?_cons_zero]; rfl) (by kernel_rfl) (by kernel_rfl) (by kernel_rfl) (by exact fun _ _ _ h => h) (Or.inl ⟨by rfl, ?_⟩) hHeld ?_
    rotate_left
    · intro w hSw; (try dsimp only at hSw); go_simp; (try with_reducible rfl)
    try simp only [Act.put, List.setIfInBounds_toArray, List.set_cons_zero, List.set_cons_succ]
    refine wpAnyH_take (i := 3) (v := ?_) (by simp only [List.getElem?_toArray, List.getElem?_cons_succ, List.getElem?_cons_zero]; rfl) (by kernel_rfl) (by kernel_rfl) (by kernel_rfl) (by exact fun _ _ _ h => h) (Or.inl ⟨by rfl, ?_⟩) hHeld ?_
    rotate_left
    · intro w hSw; (try dsimp only at hSw); go_simp; (try with_reducible rfl)
    try simp only [Act.put, List.setIfInBounds_toArray, List.set_cons_zero, List.set_cons_succ]
    refine wpAnyH_take (i := 5) (v := ?_) (by simp only [List.getElem?_toArray, List.getElem?_cons_succ, List.getElem?_cons_zero]; rfl) (by kernel_rfl) (by kernel_rfl) (by kernel_rfl) (by exact fun _ _ _ h => h) (Or.inl ⟨by rfl, ?_⟩) hHeld ?_
    rotate_left
    · intro w hSw; (try dsimp only at hSw); go_simp; (try with_reducible rfl)
    try simp only [Act.put, List.setIfInBounds_toArray, List.set_cons_zero, List.set_cons_succ]
    refine wpAnyH_take (i := 6) (v := ?_) (by simp only [List.getElem?_toArray, List.getElem?_cons_succ, List.getElem?_cons_zero]; rfl) (by kernel_rfl) (by kernel_rfl) (by kernel_rfl) (by exact fun _ _ _ h => h) (Or.inl ⟨by rfl, ?_⟩) hHeld ?_
    rotate_left
    · intro w hSw; (try dsimp only at hSw); go_simp; (try with_reducible rfl)
    try simp only [Act.put, List.setIfInBounds_toArray, List.set_cons_zero, List.set_cons_succ]
    refine wpAnyH_take (i := 7) (v := ?_) (by simp only [List.getElem?_toArray, List.getElem?_cons_succ, List.getElem?_cons_zero]; rfl) (by kernel_rfl) (by kernel_rfl) (by kernel_rfl) (by exact fun _ _ _ h => h) (Or.inl ⟨by rfl, ?_⟩) hHeld ?_
    rotate_left
    · intro w hSw; (try dsimp only at hSw); go_simp; (try with_reducible rfl)
    try simp only [Act.put, List.setIfInBounds_toArray, List.set_cons_zero, List.set_cons_succ]
    refine wpAnyH_take (i := 8) (v := ?_) (by simp only [List.getElem?_toArray, List.getElem?_cons_succ, List.getElem?_cons_zero]; rfl) (by kernel_rfl) (by kernel_rfl) (by kernel_rfl) (by exact fun _ _ _ h => h) (Or.inl ⟨by rfl, ?_⟩) hHeld ?_
    rotate_left
    · intro w hSw; (try dsimp only at hSw); go_simp; (try with_reducible rfl)
    try simp only [Act.put, List.setIfInBounds_toArray, List.set_cons_zero, List.set_cons_succ]
    refine wpAnyH_take (i := 9) (v := ?_) (by simp only [List.getElem?_toArray, List.getElem?_cons_succ, List.getElem?_cons_zero]; rfl) (by kernel_rfl) (by kernel_rfl) (by kernel_rfl) (by exact fun _ _ _ h => h) (Or.inl ⟨by rfl, ?_⟩) hHeld ?_
    rotate_left
    · intro w hSw; (try dsimp only at hSw); go_simp; (try with_reducible rfl)
    try simp only [Act.put, List.setIfInBounds_toArray, List.set_cons_zero, List.set_cons_succ]
    refine wpAnyH_take (i := 10) (v := ?_) (by simp only [List.getElem?_toArray, List.getElem?_cons_succ, List.getElem?_cons_zero]; rfl) (by kernel_rfl) (by kernel_rfl) (by kernel_rfl) (by exact fun _ _ _ h => h) (Or.inl ⟨by rfl, ?_⟩) hHeld ?_
    rotate_left
    · intro w hSw; (try dsimp only at hSw); go_simp; (try with_reducible rfl)
    try simp only [Act.put, List.setIfInBounds_toArray, List.set_cons_zero, List.set_cons_succ]
    refine wpAnyH_take (i := 11) (v := ?_) (by simp only [List.getElem?_toArray, List.getElem?_cons_succ, List.getElem?_cons_zero]; rfl) (by kernel_rfl) (by kernel_rfl) (by kernel_rfl) (by exact fun _ _ _ h => h) (Or.inl ⟨by rfl, ?_⟩) hHeld ?_
    rotate_left
    · intro w hSw; (try dsimp only at hSw); go_simp; (try with_reducible rfl)
    try simp only [Act.put, List.setIfInBounds_toArray, List.set_cons_zero, List.set_cons_succ]
    refine wpAnyH_ready (rs := [4]) (by kernel_rfl) (by simp) ?_
    refine AllReadyH.cons (by simp only [List.getElem?_toArray, List.getElem?_cons_succ, List.getElem?_cons_zero]; rfl) (fun kC hkC => ?_) AllReadyH.nil
    go_simp
    refine (lock_lit 2 2 4 0 2 l 0 A HLK.out _).mono ?_; rintro e w1 ⟨rfl, hk1⟩; have hb1 := hbd.no hk1; have ha1 := had.keep hk1 (fun f => f) (fun _ _ f => f)
    (try go_wp2_with fail)
    refine hkC.out _ _ (hb1.two) (fun hHeld => ?_)
    clear hkC kC
    try simp only [Act.put, List.setIfInBounds_toArray, List.set_cons_zero, List.set_cons_succ]
    refine wpAnyH_ready (rs := [12]) (by kernel_rfl) (by simp) ?_
    refine AllReadyH.cons (by simp only [List.getElem?_toArray, List.getElem?_cons_succ, List.getElem?_cons_zero]; rfl) (fun kC hkC => ?_) AllReadyH.nil
    go_simp
    refine (HID.out _).mono ?_; rintro e w2 ⟨rfl, hk2⟩; have hb2 := hb1.no hk2; have ha2 := ha1.keep hk2 (fun f => f) (fun _ _ f => f)
    (try go_wp2_with fail)
    refine hkC.out _ _ (hb2.two) (fun hHeld => ?_)
    clear hkC kC
    try simp only [Act.put, List.setIfInBounds_toArray, List.set_cons_zero, List.set_cons_succ]
    refine wpAnyH_ready (rs := [13]) (by kernel_rfl) (by simp) ?_
    refine AllReadyH.cons (by simp only [List.getElem?_toArray, List.getElem?_cons_succ, List.getElem?_cons_zero]; rfl) (fun kC hkC => ?_) AllReadyH.nil
    go_simp
    rw [← HAA.out]; refine (swap_no a v M (tlA l) x y _ ha2 HLT.out HQ.out).mono ?_; rw [HC.out]; rintro e w3 ⟨rfl, hm, hk3⟩; have hb3 := hb2.own hk3 ha HV.out
    (try go_wp2_with fail)
    refine hkC.out _ _ (hb3.two) (fun hHeld => ?_)
    clear hkC kC
    try simp only [Act.put, List.setIfInBounds_toArray, List.set_cons_zero, List.set_cons_succ]
    refine wpAnyH_take (i := 14) (v := ?_) (by simp only [List.getElem?_toArray, List.getElem?_cons_succ, List.getElem?_cons_zero]; rfl) (by kernel_rfl) (by kernel_rfl) (by kernel_rfl) (by exact fun _ _ _ h => h) (Or.inl ⟨by rfl, ?_⟩) hHeld ?_
    rotate_left
    · intro w hSw; (try dsimp only at hSw); go_simp; (try with_reducible rfl)
    try simp only [Act.put, List.setIfInBounds_toArray, List.set_cons_zero, List.set_cons_succ]
    refine wpAnyH_take (i := 15) (v := ?_) (by simp only [List.getElem?_toArray, List.getElem?_cons_succ, List.getElem?_cons_zero]; rfl) (by kernel_rfl) (by kernel_rfl) (by kernel_rfl) (by exact fun _ _ _ h => h) (Or.inl ⟨by rfl, ?_⟩) hHeld ?_
    rotate_left
    · intro w hSw; (try dsimp only at hSw); go_simp; (try with_reducible rfl)
    try simp only [Act.put, List.setIfInBounds_toArray, List.set_cons_zero, List.set_cons_succ]
    refine wpAnyH_take (i := 16) (v := ?_) (by simp only [List.getElem?_toArray, List.getElem?_cons_succ, List.getElem?_cons_zero]; rfl) (by kernel_rfl) (by kernel_rfl) (by kernel_rfl) (by exact fun _ _ _ h => h) (Or.inl ⟨by rfl, ?_⟩) hHeld ?_
    rotate_left
    · intro w hSw; (try dsimp only at hSw); go_simp; (try with_reducible rfl)
    try simp only [Act.put, List.setIfInBounds_toArray, List.set_cons_zero, List.set_cons_succ]
    refine wpAnyH_take (i := 17) (v := ?_) (by simp only [List.getElem?_toArray, List.getElem?_cons_succ, List.getElem?_cons_zero]; rfl) (by kernel_rfl) (by kernel_rfl) (by kernel_rfl) (by exact fun _ _ _ h => h) (Or.inl ⟨by rfl, ?_⟩) hHeld ?_
    rotate_left
    · intro w hSw; (try dsimp only at hSw); go_simp; (try with_reducible rfl)
    try simp only [Act.put, List.setIfInBounds_toArray, List.set_cons_zero, List.set_cons_succ]
    refine wpAnyH_take (i := 18) (v := ?_) (by simp only [List.getElem?_toArray, List.getElem?_cons_succ, List.getElem?_cons_zero]; rfl) (by kernel_rfl) (by kernel_rfl) (by kernel_rfl) (by exact fun _ _ _ h => h) (Or.inl ⟨by rfl, ?_⟩) hHeld ?_
    rotate_left
    · intro w hSw; (try dsimp only at hSw); go_simp; (try with_reducible rfl)
    try simp only [Act.put, List.setIfInBounds_toArray, List.set_cons_zero, List.set_cons_succ]
    refine wpAnyH_take (i := 19) (v := ?_) (by simp only [List.getElem?_toArray, List.getElem?_cons_succ, List.getElem?_cons_zero]; rfl) (by kernel_rfl) (by kernel_rfl) (by kernel_rfl) (by exact fun _ _ _ h => h) (Or.inl ⟨by rfl, ?_⟩) hHeld ?_
    rotate_left
    · intro w hSw; (try dsimp only at hSw); go_simp; (try with_reducible rfl)
    try simp only [Act.put, List.setIfInBounds_toArray, List.set_cons_zero, List.set_cons_succ]
    refine wpAnyH_take (i := 20) (v := ?_) (by simp only [List.getElem?_toArray, List.getElem?_cons_succ, List.getElem?_cons_zero]; rfl) (by kernel_rfl) (by kernel_rfl) (by kernel_rfl) (by exact fun _ _ _ h => h) (Or.inl ⟨by rfl, ?_⟩) hHeld ?_
    rotate_left
    · intro w hSw; (try dsimp only at hSw); go_simp; (try with_reducible rfl)
    try simp only [Act.put, List.setIfInBounds_toArray, List.set_cons_zero, List.set_cons_succ]
    refine wpAnyH_done (by kernel_rfl) ?_ _
    obtain ⟨⟨m0, m1, m2, m3, m4⟩, ⟨c0, c1, c2, c3, c4⟩, ⟨r0, r1, r2, r3, r4⟩, ⟨f0, f1, f2, f3, f4⟩, ⟨g0, g1, g2, g3, g4⟩, z1, z2⟩ := hb3.facts
    have hkk : Keeps (own2m a v) w w3 := ((((HK.out.trans (Keeps.refl NoS wa).drew).trans hk1).trans hk2).no).trans hk3
    clear hb3 hb2 hb1 hbd had ha1 ha2
    go_wp2_with fail
    refine bodyPost_ret (v := .agg #[.int .i64 t, .int .i64 l, .int .i64 s, .bool r, .int .i64 c]) (by simp [results, Try.results52, go_sem, *]) rfl ⟨rfl, ?_, ?_⟩
    · repeat (first | (with_reducible exact hm) | refine MemT.set (B := B) ?_ ha HV.out _ (by show B ≤ _; dsimp only; omega) _)
    · repeat (first | (with_reducible exact hkk) | refine kset HB.out ?_ _ (by show B ≤ _; dsimp only; omega) _)
end Go.Proofs.Ytjchcmomppfilaa
