/- NorecUndo: the walk through the law's code. -/
import Derived.Test.YtfnmgccbghlbjaaTxLaw
namespace Go.Proofs.Ytfnmgccbghlbjaa
open Go.RowKit
set_option maxHeartbeats 8000000 in
set_option maxRecDepth 100000 in
theorem norecUndo_main (w : World) (cl wh cs : Int) (v1 : Value) (L : NRows) (hin : InN 3 w v1 L) (hwf : ∀ k, k < L.len → (Lit.int .i64 (L.F k 2)).wf = true) : Calls Try.prog 5 #[.int .i64 cl, v1, .int .i64 wh, .int .i64 cs] w fun e w' => e = .returned (.bool true) ∧ Keeps NoS w w' := by
  obtain ⟨p, cap, rfl, hmx, hcs⟩ := hin
  have HC := Lib.hid hcs
  clear hcs
  by_cases h8 : L.len ≤ 8
  case neg =>
    go_enter Try.func5, Try.ntmps5
    have h8' : (8 : Int) < (L.len : Int) := by omega
    go_wp2_with (go_at_call 6; refine (told16_any _).mono ?_; rintro e wt ⟨rfl, hkt⟩)
    go_ret
    exact ⟨rfl, hkt⟩
  have HOK := Lib.hid (planOf_ok L h8 hwf)
  clear hwf
  go_enter Try.func5, Try.ntmps5
  have h8' : ¬ (8 : Int) < (L.len : Int) := by omega
  go_upto_region 4 with (go_at_call 7; refine (map16_any _).mono ?_; rintro e w1 ⟨rfl, hk1⟩)
  have hB := mapAt_new w1 3 1 3 0 4 25
  have hk1' := hk1.alloc (.cells #[.int .i64 3, .int .i64 1, .int .i64 3, .int .i64 0, .int .i64 4] 25)
  obtain ⟨B, hBe⟩ : ∃ B, w1.heap.size = B := ⟨_, rfl⟩
  have hBl : B < (w1.alloc (.cells #[.int .i64 3, .int .i64 1, .int .i64 3, .int .i64 0, .int .i64 4] 25)).heap.size := by rw [← hBe]; simp
  rw [hBe] at hB
  (try rw [hBe])
  generalize w1.alloc (.cells #[.int .i64 3, .int .i64 1, .int .i64 3, .int .i64 0, .int .i64 4] 25) = W at *
  clear hk1 hBe
  have HWk := Lib.hid hk1'
  obtain ⟨m0, m1, m2, m3, m4⟩ := hB
  have HM := Lib.hid (show ∀ w', Keeps NoS W w' → (w'.cell? ⟨B, 0, none⟩ = some (.int .i64 3) ∧ w'.cell? ⟨B, 1, none⟩ = some (.int .i64 1) ∧ w'.cell? ⟨B, 2, none⟩ = some (.int .i64 3) ∧ w'.cell? ⟨B, 3, none⟩ = some (.int .i64 0) ∧ w'.cell? ⟨B, 4, none⟩ = some (.int .i64 4)) ∧ B < w'.heap.size from fun w' k => ⟨⟨k.cell m0 (fun f => f), k.cell m1 (fun f => f), k.cell m2 (fun f => f), k.cell m3 (fun f => f), k.cell m4 (fun f => f)⟩, Nat.lt_of_lt_of_le hBl k.size⟩)
  go_upto_region 5 with (go_at_call 8; refine (both_any 3 1 3 0 4 34 m16_size (by decide) (by decide) W).mono ?_; rintro e w2 ⟨a, c, v, u, rfl, hT⟩)
  clear m0 m1 m2 m3 m4 hBl hk1'
  have HT := Lib.hid hT.s
  clear hT
  have HC2 := Lib.hid (show ∀ w', Keeps NoS w2 w' → ∀ b off, p = some ⟨b, off, none⟩ → (∀ k, k < L.len → ∀ j, j < 3 → w.cell? ⟨b, off + k * 3 + j, none⟩ = some (.int .i64 (L.F k j))) → ∀ k, k < L.len → w'.cell? ⟨b, off + k * 3, none⟩ = some (.int .i64 (L.F k 0)) ∧ w'.cell? ⟨b, off + k * 3 + 1, none⟩ = some (.int .i64 (L.F k 1)) ∧ w'.cell? ⟨b, off + k * 3 + 2, none⟩ = some (.int .i64 (L.F k 2)) from fun w' kk b off hp hcc k hk =>
    have K := HWk.out.trans (HT.out.kp.trans kk)
    ⟨K.cell (hcc k hk 0 (by decide)) (fun f => f), K.cell (hcc k hk 1 (by decide)) (fun f => f), K.cell (hcc k hk 2 (by decide)) (fun f => f)⟩)
  go_wp2_with fail
  go_loopw [12, 13] (fun pv iv wr => ∃ k : Nat, k ≤ L.len ∧ iv = .int .i64 k ∧ wr.ownsRow 0 34 3 pv k (flat3 (planOf L k)) ∧ (∀ g, pv.ownBlock = some g → w2.heap.size ≤ g) ∧ Keeps NoS w2 wr) (fun _ i _ => L.len - (intOf i).toNat)
  case atStart => exact ⟨0, by omega, rfl, World.ownsRow_nil _ _ _ _, by simp [Value.ownBlock], Keeps.refl _ _⟩
  case round =>
    obtain ⟨k, hk, rfl, hown, hnew, hkp⟩ := hrel
    have HO := Lib.hid hown; have HNW := Lib.hid hnew; have HKP := Lib.hid hkp
    clear hown hnew hkp
    by_cases hlt : k < L.len
    · obtain ⟨b, off, rfl, hcc⟩ := HC.out (by omega)
      have k0 : (0 : Int) ≤ (k : Int) := by omega
      have k1 : (k : Int) < (L.len : Int) := by omega
      have hkd := HKP.out.drew
      have HS := Lib.hid (show ∀ w', Keeps NoS w2 w' → w'.cell? ⟨b, off + k * 3, none⟩ = some (.int .i64 (L.F k 0)) ∧ w'.cell? ⟨b, off + k * 3 + 1, none⟩ = some (.int .i64 (L.F k 1)) ∧ w'.cell? ⟨b, off + k * 3 + 2, none⟩ = some (.int .i64 (L.F k 2)) from fun w' kk => HC2.out w' kk b off rfl (fun k hk j hj => (hcc k hk j hj).1) k hlt)
      have HZ := Lib.hid (show flat3 (planOf L (k + 1)) = flat3 (planOf L k) ++ [.int .i64 (kdZ (L.F k 0)), .int .i64 (atZ (L.F k 1)), .int .i64 (L.F k 2)] from flat3_snoc _ _)
      clear hcc
      obtain ⟨z0', hz0⟩ : ∃ z, L.F k 0 = z := ⟨_, rfl⟩
      obtain ⟨z1', hz1⟩ : ∃ z, L.F k 1 = z := ⟨_, rfl⟩
      obtain ⟨z2', hz2⟩ : ∃ z, L.F k 2 = z := ⟨_, rfl⟩
      rw [hz0, hz1, hz2] at HS HZ
      clear hz0 hz1 hz2
      obtain ⟨i0, hi, hy0, hy1, hy2⟩ := info_parts infoOp
      have d2 : ∀ u ∈ [Value.int .i64 (kdZ z0'), .int .i64 (atZ z1'), .int .i64 z2'], u.oneCell' = true := by simp [Value.oneCell']
      have b3 : k + 1 ≤ maxLen := by unfold maxLen; omega
      unfold kdZ atZ at d2
      go_upto_region 11 with fail
      refine wp_region_held_drew (S := (fun w' => w'.cell? ⟨b, off + k * 3, none⟩ = some (.int .i64 z0') ∧ w'.cell? ⟨b, off + k * 3 + 1, none⟩ = some (.int .i64 z1') ∧ w'.cell? ⟨b, off + k * 3 + 2, none⟩ = some (.int .i64 z2'))) (by kernel_rfl) ((HS.out _ hkd)) (fun hHeld => ?_)
      refine wpAnyH_take (i := 0) (v := ?_) (by simp only [List.getElem?_toArray, List.getElem?_cons_succ, List.getElem?_cons_zero]; rfl) (by kernel_rfl) (by kernel_rfl) (by kernel_rfl) (by exact fun _ _ _ h => h) (Or.inl ⟨by rfl, ?_⟩) hHeld ?_
      rotate_left
      · intro w hSw; (try dsimp only at hSw); go_simp; (try with_reducible rfl)
      try simp only [Act.put, List.setIfInBounds_toArray, List.set_cons_zero, List.set_cons_succ]
      refine wpAnyH_take (i := 1) (v := ?_) (by simp only [List.getElem?_toArray, List.getElem?_cons_succ, List.getElem?_cons_zero]; rfl) (by kernel_rfl) (by kernel_rfl) (by kernel_rfl) (by exact fun _ _ _ h => h) (Or.inl ⟨by rfl, ?_⟩) hHeld ?_
      rotate_left
      · intro w hSw; (try dsimp only at hSw); go_simp; (try with_reducible rfl)
      try simp only [Act.put, List.setIfInBounds_toArray, List.set_cons_zero, List.set_cons_succ]
      refine wpAnyH_take (i := 2) (v := ?_) (by simp only [List.getElem?_toArray, List.getElem?_cons_succ, List.getElem?_cons_zero]; rfl) (by kernel_rfl) (by kernel_rfl) (by kernel_rfl) (by exact fun _ _ _ h => h) (Or.inl ⟨by rfl, ?_⟩) hHeld ?_
      rotate_left
      · intro w hSw; (try dsimp only at hSw); go_simp; (try with_reducible rfl)
      try simp only [Act.put, List.setIfInBounds_toArray, List.set_cons_zero, List.set_cons_succ]
      refine wpAnyH_take (i := 3) (v := ?_) (by simp only [List.getElem?_toArray, List.getElem?_cons_succ, List.getElem?_cons_zero]; rfl) (by kernel_rfl) (by kernel_rfl) (by kernel_rfl) (by exact fun _ _ _ h => h) (Or.inl ⟨by rfl, ?_⟩) hHeld ?_
      rotate_left
      · intro w hSw; (try dsimp only at hSw); go_simp; (try with_reducible rfl)
      try simp only [Act.put, List.setIfInBounds_toArray, List.set_cons_zero, List.set_cons_succ]
      refine wpAnyH_take (i := 4) (v := ?_) (by simp only [List.getElem?_toArray, List.getElem?_cons_succ, List.getElem?_cons_zero]; rfl) (by kernel_rfl) (by kernel_rfl) (by kernel_rfl) (by exact fun _ _ _ h => h) (Or.inl ⟨by rfl, ?_⟩) hHeld ?_
      rotate_left
      · intro w hSw; (try dsimp only at hSw); go_simp; (try with_reducible rfl)
      try simp only [Act.put, List.setIfInBounds_toArray, List.set_cons_zero, List.set_cons_succ]
      refine wpAnyH_take (i := 5) (v := ?_) (by simp only [List.getElem?_toArray, List.getElem?_cons_succ, List.getElem?_cons_zero]; rfl) (by kernel_rfl) (by kernel_rfl) (by kernel_rfl) (by exact fun _ _ _ h => h) (Or.inl ⟨by rfl, ?_⟩) hHeld ?_
      rotate_left
      · intro w hSw; (try dsimp only at hSw); go_simp; (try with_reducible rfl)
      try simp only [Act.put, List.setIfInBounds_toArray, List.set_cons_zero, List.set_cons_succ]
      refine wpAnyH_take (i := 6) (v := ?_) (by simp only [List.getElem?_toArray, List.getElem?_cons_succ, List.getElem?_cons_zero]; rfl) (by kernel_rfl) (by kernel_rfl) (by kernel_rfl) (by exact fun _ _ _ h => h) (Or.inl ⟨by rfl, ?_⟩) hHeld ?_
      rotate_left
      · intro w hSw; (try dsimp only at hSw); go_simp; (try with_reducible rfl)
      try simp only [Act.put, List.setIfInBounds_toArray, List.set_cons_zero, List.set_cons_succ]
      refine wpAnyH_take (i := 7) (v := ?_) (by simp only [List.getElem?_toArray, List.getElem?_cons_succ, List.getElem?_cons_zero]; rfl) (by kernel_rfl) (by kernel_rfl) (by kernel_rfl) (by exact fun _ _ _ h => h) (Or.inl ⟨by rfl, ?_⟩) hHeld ?_
      rotate_left
      · intro w hSw; (try dsimp only at hSw); go_simp; (try with_reducible rfl)
      try simp only [Act.put, List.setIfInBounds_toArray, List.set_cons_zero, List.set_cons_succ]
      refine wpAnyH_take (i := 8) (v := ?_) (by simp only [List.getElem?_toArray, List.getElem?_cons_succ, List.getElem?_cons_zero]; rfl) (by kernel_rfl) (by kernel_rfl) (by kernel_rfl) (by exact fun _ _ _ h => h) (Or.inl ⟨by rfl, ?_⟩) hHeld ?_
      rotate_left
      · intro w hSw; (try dsimp only at hSw); go_simp; (try with_reducible rfl)
      try simp only [Act.put, List.setIfInBounds_toArray, List.set_cons_zero, List.set_cons_succ]
      refine wpAnyH_take (i := 9) (v := ?_) (by simp only [List.getElem?_toArray, List.getElem?_cons_succ, List.getElem?_cons_zero]; rfl) (by kernel_rfl) (by kernel_rfl) (by kernel_rfl) (by exact fun _ _ _ h => h) (Or.inl ⟨by rfl, ?_⟩) hHeld ?_
      rotate_left
      · intro w hSw; (try dsimp only at hSw); go_simp; (try with_reducible rfl)
      try simp only [Act.put, List.setIfInBounds_toArray, List.set_cons_zero, List.set_cons_succ]
      refine wpAnyH_take (i := 10) (v := ?_) (by simp only [List.getElem?_toArray, List.getElem?_cons_succ, List.getElem?_cons_zero]; rfl) (by kernel_rfl) (by kernel_rfl) (by kernel_rfl) (by exact fun _ _ _ h => h) (Or.inl ⟨by rfl, ?_⟩) hHeld ?_
      rotate_left
      · intro w hSw; (try dsimp only at hSw); go_simp; (try with_reducible rfl)
      try simp only [Act.put, List.setIfInBounds_toArray, List.set_cons_zero, List.set_cons_succ]
      refine wpAnyH_take (i := 11) (v := ?_) (by simp only [List.getElem?_toArray, List.getElem?_cons_succ, List.getElem?_cons_zero]; rfl) (by kernel_rfl) (by kernel_rfl) (by kernel_rfl) (by exact fun _ _ _ h => h) (Or.inl ⟨by rfl, ?_⟩) hHeld ?_
      rotate_left
      · intro w hSw; (try dsimp only at hSw); go_simp; (try with_reducible rfl)
      try simp only [Act.put, List.setIfInBounds_toArray, List.set_cons_zero, List.set_cons_succ]
      refine wpAnyH_take (i := 12) (v := ?_) (by simp only [List.getElem?_toArray, List.getElem?_cons_succ, List.getElem?_cons_zero]; rfl) (by kernel_rfl) (by kernel_rfl) (by kernel_rfl) (by exact fun _ _ _ h => h) (Or.inl ⟨by rfl, ?_⟩) hHeld ?_
      rotate_left
      · intro w hSw; (try dsimp only at hSw); go_simp; (try with_reducible rfl)
      try simp only [Act.put, List.setIfInBounds_toArray, List.set_cons_zero, List.set_cons_succ]
      refine wpAnyH_take (i := 13) (v := ?_) (by simp only [List.getElem?_toArray, List.getElem?_cons_succ, List.getElem?_cons_zero]; rfl) (by kernel_rfl) (by kernel_rfl) (by kernel_rfl) (by exact fun _ _ _ h => h) (Or.inl ⟨by rfl, ?_⟩) hHeld ?_
      rotate_left
      · intro w hSw; (try dsimp only at hSw); go_simp; (try with_reducible rfl)
      try simp only [Act.put, List.setIfInBounds_toArray, List.set_cons_zero, List.set_cons_succ]
      refine wpAnyH_take (i := 14) (v := ?_) (by simp only [List.getElem?_toArray, List.getElem?_cons_succ, List.getElem?_cons_zero]; rfl) (by kernel_rfl) (by kernel_rfl) (by kernel_rfl) (by exact fun _ _ _ h => h) (Or.inl ⟨by rfl, ?_⟩) hHeld ?_
      rotate_left
      · intro w hSw; (try dsimp only at hSw); go_simp; (try with_reducible rfl)
      try simp only [Act.put, List.setIfInBounds_toArray, List.set_cons_zero, List.set_cons_succ]
      refine wpAnyH_take (i := 15) (v := ?_) (by simp only [List.getElem?_toArray, List.getElem?_cons_succ, List.getElem?_cons_zero]; rfl) (by kernel_rfl) (by kernel_rfl) (by kernel_rfl) (by exact fun _ _ _ h => h) (Or.inl ⟨by rfl, ?_⟩) hHeld ?_
      rotate_left
      · intro w hSw; (try dsimp only at hSw); go_simp; (try with_reducible rfl)
      try simp only [Act.put, List.setIfInBounds_toArray, List.set_cons_zero, List.set_cons_succ]
      refine wpAnyH_take (i := 16) (v := ?_) (by simp only [List.getElem?_toArray, List.getElem?_cons_succ, List.getElem?_cons_zero]; rfl) (by kernel_rfl) (by kernel_rfl) (by kernel_rfl) (by exact fun _ _ _ h => h) (Or.inl ⟨by rfl, ?_⟩) hHeld ?_
      rotate_left
      · intro w hSw; (try dsimp only at hSw); go_simp; (try with_reducible rfl)
      try simp only [Act.put, List.setIfInBounds_toArray, List.set_cons_zero, List.set_cons_succ]
      refine wpAnyH_take (i := 17) (v := ?_) (by simp only [List.getElem?_toArray, List.getElem?_cons_succ, List.getElem?_cons_zero]; rfl) (by kernel_rfl) (by kernel_rfl) (by kernel_rfl) (by exact fun _ _ _ h => h) (Or.inl ⟨by rfl, ?_⟩) hHeld ?_
      rotate_left
      · intro w hSw; (try dsimp only at hSw); go_simp; (try with_reducible rfl)
      try simp only [Act.put, List.setIfInBounds_toArray, List.set_cons_zero, List.set_cons_succ]
      refine wpAnyH_take (i := 18) (v := ?_) (by simp only [List.getElem?_toArray, List.getElem?_cons_succ, List.getElem?_cons_zero]; rfl) (by kernel_rfl) (by kernel_rfl) (by kernel_rfl) (by exact fun _ _ _ h => h) (Or.inl ⟨by rfl, ?_⟩) hHeld ?_
      rotate_left
      · intro w hSw; (try dsimp only at hSw); go_simp; (try with_reducible rfl)
      try simp only [Act.put, List.setIfInBounds_toArray, List.set_cons_zero, List.set_cons_succ]
      refine wpAnyH_take (i := 19) (v := ?_) (by simp only [List.getElem?_toArray, List.getElem?_cons_succ, List.getElem?_cons_zero]; rfl) (by kernel_rfl) (by kernel_rfl) (by kernel_rfl) (by exact fun _ _ _ h => h) (Or.inl ⟨by rfl, ?_⟩) hHeld ?_
      rotate_left
      · intro w hSw; (try dsimp only at hSw); go_simp; (try with_reducible rfl)
      try simp only [Act.put, List.setIfInBounds_toArray, List.set_cons_zero, List.set_cons_succ]
      refine wpAnyH_take (i := 20) (v := ?_) (by simp only [List.getElem?_toArray, List.getElem?_cons_succ, List.getElem?_cons_zero]; rfl) (by kernel_rfl) (by kernel_rfl) (by kernel_rfl) (by exact fun _ _ _ h => h) (Or.inl ⟨by rfl, ?_⟩) hHeld ?_
      rotate_left
      · intro w hSw; (try dsimp only at hSw); go_simp; (try with_reducible rfl)
      try simp only [Act.put, List.setIfInBounds_toArray, List.set_cons_zero, List.set_cons_succ]
      refine wpAnyH_take (i := 21) (v := ?_) (by simp only [List.getElem?_toArray, List.getElem?_cons_succ, List.getElem?_cons_zero]; rfl) (by kernel_rfl) (by kernel_rfl) (by kernel_rfl) (by exact fun _ _ _ h => h) (Or.inl ⟨by rfl, ?_⟩) hHeld ?_
      rotate_left
      · intro w hSw; (try dsimp only at hSw); go_simp; (try with_reducible rfl)
      try simp only [Act.put, List.setIfInBounds_toArray, List.set_cons_zero, List.set_cons_succ]
      refine wpAnyH_take (i := 22) (v := ?_) (by simp only [List.getElem?_toArray, List.getElem?_cons_succ, List.getElem?_cons_zero]; rfl) (by kernel_rfl) (by kernel_rfl) (by kernel_rfl) (by exact fun _ _ _ h => h) (Or.inl ⟨by rfl, ?_⟩) hHeld ?_
      rotate_left
      · intro w hSw; (try dsimp only at hSw); go_simp; (try with_reducible rfl)
      try simp only [Act.put, List.setIfInBounds_toArray, List.set_cons_zero, List.set_cons_succ]
      refine wpAnyH_ready (rs := [23]) (by kernel_rfl) (by simp) ?_
      refine AllReadyH.cons (by simp only [List.getElem?_toArray, List.getElem?_cons_succ, List.getElem?_cons_zero]; rfl) (fun kC hkC => ?_) AllReadyH.nil
      go_simp
      refine hkC.out _ _ ((HS.out _ (hkd.alloc _))) (fun hHeld => ?_)
      clear hkC kC
      try simp only [Act.put, List.setIfInBounds_toArray, List.set_cons_zero, List.set_cons_succ]
      refine wpAnyH_ready (rs := [24]) (by kernel_rfl) (by simp) ?_
      refine AllReadyH.cons (by simp only [List.getElem?_toArray, List.getElem?_cons_succ, List.getElem?_cons_zero]; rfl) (fun kC hkC => ?_) AllReadyH.nil
      refine step_append_fp _ rfl (.tmp 39) (.tmp 62) 31 (by rfl) 34 i0 (.agg #[.int .i64 0, .int .i64 0, .int .i64 0]) 3 24 Try.underlying31 hi hy0 hy1 hy2 rfl (by decide) _ k _ (by rfl) (Keeps.owns ((Keeps.refl NoS _).drew) (HO.out.alloc _) (fun _ _ f => f)) ⟨wr.heap.size, 0, none⟩ 1 1 _ (by rfl) rfl (cells_new _ _ _) d2 b3 (by omega) ?_; intro v' w3 hown hgr hob; have hk3 := ((HKP.out.alloc _).drew).grown hgr (fun g e hl => absurd (HNW.out g e) (by omega)); have hob2 := fun g e => (hob g e).elim (HNW.out g) (fun e2 => (by have := HKP.out.size; simp at e2; omega : w2.heap.size ≤ g)); clear hgr hob
      refine hkC.out _ _ ((HS.out _ hk3)) (fun hHeld => ?_)
      clear hkC kC
      try simp only [Act.put, List.setIfInBounds_toArray, List.set_cons_zero, List.set_cons_succ]
      refine wpAnyH_take (i := 25) (v := ?_) (by simp only [List.getElem?_toArray, List.getElem?_cons_succ, List.getElem?_cons_zero]; rfl) (by kernel_rfl) (by kernel_rfl) (by kernel_rfl) (by exact fun _ _ _ h => h) (Or.inl ⟨by rfl, ?_⟩) hHeld ?_
      rotate_left
      · intro w hSw; (try dsimp only at hSw); go_simp; (try with_reducible rfl)
      try simp only [Act.put, List.setIfInBounds_toArray, List.set_cons_zero, List.set_cons_succ]
      refine wpAnyH_done (by kernel_rfl) ?_ _
      go_wp2_with fail
      go_roundw
      case rel => exact ⟨k + 1, by omega, by go_num, by rw [HZ.out]; exact hown, hob2, hk3⟩
      case measure => simp [intOf]; omega
    · obtain rfl : k = L.len := by omega
      clear HC2
      have hrow : Row3 wr u12 (planOf L L.len) := by unfold Row3; rw [planOf_len]; exact HO.out
      obtain ⟨pp, pc, hpv⟩ := hrow.plan.sl
      have hpl : ∀ g, u12.ownBlock = some g → g < wr.heap.size ∧ ¬ own2m a v g := fun g e => by
        have h1 := HNW.out g e
        refine ⟨(HO.out.lt g e).2, ?_⟩
        rintro (e2 | e2)
        · have := blk_lt HT.out.m.hd; omega
        · have := HT.out.m.own_lt e2; omega
      subst hpv
      have HRW := Lib.hid hrow; have HPL := Lib.hid hpl
      clear hrow hpl HO HNW
      go_upto_region 13 with (go_at_call 9; refine (xNew16_any 1 _ (.inr (.inl rfl)) _).mono ?_; rintro e w3 ⟨X, ra, wa, rfl, hn⟩)
      have hL : LR W (w3.alloc (.cells #[.pointer (some ⟨X, 0, none⟩), .slice pp (planOf L L.len).length pc, .int .i64 0, .bool false, .int .i64 0, .slice none 0 0] 40)) a v X ra wa w3.heap.size (.slice pp (planOf L L.len).length pc) (z0 (planOf L L.len)) := LR.made (w := W) (HT.out.m.keep HKP.out (fun f => f) (fun _ _ f => f)) (HT.out.kp.trans HKP.out) HT.out.na HT.out.nv hn HRW.out.plan HPL.out
      obtain ⟨U, hU⟩ : ∃ U, w3.heap.size = U := ⟨_, rfl⟩
      rw [hU] at hL
      (try rw [hU])
      generalize w3.alloc (.cells #[.pointer (some ⟨X, 0, none⟩), .slice pp (planOf L L.len).length pc, .int .i64 0, .bool false, .int .i64 0, .slice none 0 0] 40) = W4 at *
      generalize hP : planOf L L.len = P at *
      obtain ⟨pv, hpv⟩ : ∃ z, Value.slice pp P.length pc = z := ⟨_, rfl⟩
      (try rw [hpv])
      rw [hpv] at hL
      have HL := Lib.hid hL
      clear hL HRW HPL hn hU hpv HKP HT HC hk hlt h8' hP
      have hrn : ∃ n : Nat, n < 60 ∧ IntKind.i64.wrap ((IntKind.u64.wrap wh).tmod 60) = (n : Int) := by
        obtain ⟨h1, h2⟩ := u64_tmod_bd wh 60 (by omega)
        refine ⟨((IntKind.u64.wrap wh).tmod 60).toNat, by omega, ?_⟩
        rw [IntWalk.i64_in _ (by omega)]
        omega
      obtain ⟨n, hn60, hwh⟩ := hrn
      have HWH := Lib.hid hwh
      have HTI := Lib.hid (it_TI (s := z0 P) (TI.new 1))
      have HRI := Lib.hid (it_RI (s := z0 P) (RI.new HOK.out.len))
      have HLN := Lib.hid (it_len (s := z0 P) (M0_len 34))
      clear hwh
      obtain ⟨rv, wv, vv, rdv, hN, hK, hG⟩ := HL.out
      have c0 := hN.c 0 (z := .pointer (some ⟨X, 0, none⟩)) rfl; have hl := hN.lt
      go_wp2_with fail
      clear c0 hl hN hK hG
      go_loopw [15] (fun iv wr => ∃ k : Nat, k ≤ n ∧ iv = .int .i64 k ∧ LR W wr a v X ra wa U pv (itN k (z0 P))) (fun i _ => n - (intOf i).toNat)
      case atStart => exact ⟨0, by omega, rfl, HL.out⟩
      case round =>
        obtain ⟨k, hk, rfl, hL⟩ := hrel
        obtain ⟨rv, wv, vv, rdv, hN, hK, hG⟩ := hL
        have c0 := hN.c 0 (z := .pointer (some ⟨X, 0, none⟩)) rfl; have hl := hN.lt

        obtain ⟨⟨m0, m1, m2, m3, m4⟩, hBl⟩ := HM.out _ hK
        have hw := HWH.out
        have c4 := hN.c 4 (z := .int .i64 (itN k (z0 P)).2.2.fin) rfl
        have k0 : (0 : Int) ≤ (k : Int) := by omega
        by_cases hkn : k < n
        · have e1 : decide ((k : Int) < IntKind.i64.wrap ((IntKind.u64.wrap wh).tmod 60)) = true := by rw [hw]; exact decide_eq_true (by omega)
          by_cases hf : (itN k (z0 P)).2.2.fin = 0
          · have e2 : ((itN k (z0 P)).2.2.fin == 0) = true := by simpa using hf
            clear hf
            go_wp2_with (go_at_call 10; refine (rnext_any hN (HTI.out k) (HRI.out k) (HLN.out k)).mono ?_; rintro e w5 ⟨rfl, hP5⟩; have hL5 : LR W w5 a v X ra wa U pv (itN (k + 1) (z0 P)) := LR.after hK hG hP5)
            go_roundw
            case rel => exact ⟨k + 1, by omega, by go_num, hL5⟩
            case measure => simp [intOf]; omega
          · have e2 : ((itN k (z0 P)).2.2.fin == 0) = false := by simpa using hf
            have e3 : ((itN k (z0 P)).2.2.fin != 0) = true := by simpa using hf
            have h1 := undo_past HOK.out k (.inl hf) 3
            have HK1 := Lib.hid h1
            clear h1
            go_upto_region 20 with (go_at_call 13; refine (xDecided_any hN.nx).mono ?_; rintro e wd ⟨rfl, hwd⟩; subst hwd)
            go_wp2_with (first
              | (go_at_call 6; refine (told16_any _).mono ?_; rintro e wt ⟨rfl, hkt⟩; have hNt := hN.no hkt; have c0' := hNt.c 0 (z := .pointer (some ⟨X, 0, none⟩)) rfl; have hl' := hNt.lt)
              | (go_at_call 23; refine (xKill_any hNt.nx 3).mono ?_; rw [HK1.out]; rintro e wk ⟨rfl, hNk, hkk⟩))
            go_ret
            refine ⟨rfl, HWk.out.trans ((hK.trans hkt).trans' hkk (fun i hi e => ?_))⟩
            have := hG X (.inl (.inl (.inl rfl)))
            have e' : i = X := e
            omega

        · obtain rfl : k = n := by omega
          have e1 : decide ((k : Int) < IntKind.i64.wrap ((IntKind.u64.wrap wh).tmod 60)) = false := by rw [hw]; exact decide_eq_false (by omega)
          by_cases hf : (itN k (z0 P)).2.2.fin = 0
          · have e3 : ((itN k (z0 P)).2.2.fin != 0) = false := by simpa using hf
            by_cases hli : (itN k (z0 P)).2.1.life = 2
            · have e4 : ((itN k (z0 P)).2.1.life == 2) = true := by simpa using hli
              have h1 := undo_past HOK.out k (.inr hli) 3
              have HK1 := Lib.hid h1
              clear h1
              go_upto_region 20 with (go_at_call 13; refine (xDecided_any hN.nx).mono ?_; rintro e wd ⟨rfl, hwd⟩; subst hwd)
              go_wp2_with (first
                | (go_at_call 6; refine (told16_any _).mono ?_; rintro e wt ⟨rfl, hkt⟩; have hNt := hN.no hkt; have c0' := hNt.c 0 (z := .pointer (some ⟨X, 0, none⟩)) rfl; have hl' := hNt.lt)
                | (go_at_call 23; refine (xKill_any hNt.nx 3).mono ?_; rw [HK1.out]; rintro e wk ⟨rfl, hNk, hkk⟩))
              go_ret
              refine ⟨rfl, HWk.out.trans ((hK.trans hkt).trans' hkk (fun i hi e => ?_))⟩
              have := hG X (.inl (.inl (.inl rfl)))
              have e' : i = X := e
              omega

            · have e4 : ((itN k (z0 P)).2.1.life == 2) = false := by simpa using hli
              go_upto_region 22 with (go_at_call 13; refine (xDecided_any hN.nx).mono ?_; rintro e wd ⟨rfl, hwd⟩; subst hwd)
              generalize wrap64 (1 + wrap64 ((IntKind.u64.wrap cs).tmod 6)) = cc at *
              clear HL hw e1 e3 e4 c4 hkn hk
              go_upto_region 23 with (go_at_call 23; refine (xKill_any hN.nx cc).mono ?_; rintro e wk ⟨rfl, hNk, hkk⟩)
              have hL0 : LR W wk a v X ra wa U pv ((uN (itN k (z0 P)).1 (itN k (z0 P)).2.1 cc 0).1, (uN (itN k (z0 P)).1 (itN k (z0 P)).2.1 cc 0).2.1, (itN k (z0 P)).2.2) := LR.after hK hG (hN.tx (hN.nx.kx hkk hNk))
              clear c0 hl m0 m1 m2 m3 m4 hBl hN hK hG hNk hkk
              obtain ⟨rv, wv, vv, rdv, hN, hK, hG⟩ := hL0
              have c0 := hN.c 0 (z := .pointer (some ⟨X, 0, none⟩)) rfl; have hl := hN.lt
              have c2 := hN.c 2 (z := .int .i64 (itN k (z0 P)).2.2.i) rfl
              cases k with
              | zero =>
                have c3 := hN.c 3 (z := .bool false) rfl
                have hkl : (killT (itN 0 (z0 P)).2.1 cc).2 = 1 := rfl
                rw [hkl]
                have e5 : ((itN 0 (z0 P)).2.2.i == 0) = true := rfl
                go_wp2_with (go_at_call 6; refine (told16_any _).mono ?_; rintro e wt ⟨rfl, hkt⟩)
                go_ret
                exact ⟨rfl, HWk.out.trans (hK.trans hkt)⟩
              | succ k =>
                obtain ⟨hbz, hgn⟩ := undo_now HOK.out k hf hli cc
                have HGN := Lib.hid hgn
                have hLk := HLN.out (k + 1)
                have hTk := HTI.out (k + 1)
                clear hgn hf hli HLN HTI HRI
                generalize itN (k + 1) (z0 P) = z at *
                have e5 : (z.2.2.i == 0) = false := by simpa using hbz
                have HUL := Lib.hid (uN_len (t := z.2.1) (c := cc) hLk)
                have HUT := Lib.hid (uN_TI (M := z.1) (c := cc) hTk)
                have HL0 := Lib.hid (show LR W wk a v X ra wa U pv ((uN z.1 z.2.1 cc 0).1, (uN z.1 z.2.1 cc 0).2.1, z.2.2) from ⟨rv, wv, vv, rdv, hN, hK, hG⟩)
                rw [show (killT z.2.1 cc).2 = (uN z.1 z.2.1 cc 0).2.2 from rfl]
                clear hbz hLk hTk
                go_upto_region 26 with fail
                clear c0 c2 hl hN hK hG e5
                go_wp2_with fail
                go_loopw [17, 18] (fun ev iv wr => ∃ k : Nat, k ≤ 2 ∧ iv = .int .i64 k ∧ ev = .int .i64 (uN z.1 z.2.1 cc k).2.2 ∧ LR W wr a v X ra wa U pv ((uN z.1 z.2.1 cc k).1, (uN z.1 z.2.1 cc k).2.1, z.2.2)) (fun _ i _ => 3 - (intOf i).toNat)
                case atStart => exact ⟨0, by omega, rfl, rfl, HL0.out⟩
                case round =>
                  obtain ⟨j, hj, rfl, rfl, hL⟩ := hrel
                  obtain ⟨rv, wv, vv, rdv, hN, hK, hG⟩ := hL
                  have c0 := hN.c 0 (z := .pointer (some ⟨X, 0, none⟩)) rfl; have hl := hN.lt
                  have j0 : (0 : Int) ≤ (j : Int) := by omega
                  have e1 : decide ((j : Int) < 60) = true := decide_eq_true (by omega)
                  by_cases he : (uN z.1 z.2.1 cc j).2.2 = 0
                  · have hj2 : j < 2 := by
                      rcases Nat.lt_or_ge j 2 with h | h
                      · exact h
                      · have := (HGN.out j h).e; omega
                    have e2 : ((uN z.1 z.2.1 cc j).2.2 == 0) = true := by simpa using he
                    have hsu : uN z.1 z.2.1 cc (j + 1) = ((stepX (uN z.1 z.2.1 cc j).1 (uN z.1 z.2.1 cc j).2.1).1, (stepX (uN z.1 z.2.1 cc j).1 (uN z.1 z.2.1 cc j).2.1).2.1, (stepX (uN z.1 z.2.1 cc j).1 (uN z.1 z.2.1 cc j).2.1).2.2) := by
                      show uS _ = _
                      unfold uS
                      rw [if_pos he]
                    have HSU := Lib.hid hsu
                    clear hsu he
                    go_wp2_with (go_at_call 24; refine (xStep_any hN.nx (HUL.out j) (HUT.out j).step).mono ?_; rintro e w5 ⟨rfl, hP5⟩; have hL5 := LR.after hK hG (hN.tx hP5))
                    go_roundw
                    case rel => exact ⟨j + 1, by omega, by go_num, by rw [HSU.out], by rw [HSU.out]; exact hL5⟩
                    case measure => simp [intOf]; omega
                  · have e2 : ((uN z.1 z.2.1 cc j).2.2 == 0) = false := by simpa using he
                    have hgo : Gone (uN z.1 z.2.1 cc j).1 (uN z.1 z.2.1 cc j).2.1 (uN z.1 z.2.1 cc j).2.2 cc 0 := by
                      have := HGN.out 2 (by omega)
                      rw [uN_stop he 2 hj] at this
                      exact this
                    generalize uN z.1 z.2.1 cc j = y at *
                    obtain ⟨M', t', ev⟩ := y
                    dsimp only at hN hgo e2 hK hG
                    have HGO := Lib.hid hgo
                    have HL1 := Lib.hid (show LR W wr a v X ra wa U pv (M', t', z.2.2) from ⟨rv, wv, vv, rdv, hN, hK, hG⟩)
                    obtain rfl : ev = 2 := hgo.e
                    clear hgo he HGN HUL HUT HL0
                    go_upto_region 30 with fail
                    clear c0 hl hN hK hG e1 e2 j0
                    have HZ := Lib.hid (show ∀ p, M'.atP p = 0 from fun p => by rw [HGO.out.mz.at_]; unfold memF valW; simp)
                    go_loopw [19] (fun iv wr => ∃ d : Nat, d ≤ 4 ∧ iv = .int .i64 d ∧ LR W wr a v X ra wa U pv (M', t', z.2.2)) (fun i _ => 5 - (intOf i).toNat)
                    case atStart => exact ⟨0, by omega, rfl, HL1.out⟩
                    case round =>
                      obtain ⟨d, hd, rfl, hL⟩ := hrel
                      obtain ⟨rv, wv, vv, rdv, hN, hK, hG⟩ := hL
                      have d0 : (0 : Int) ≤ (d : Int) := by omega
                      by_cases hd4 : d < 4
                      · have e1 : decide ((d : Int) < 4) = true := decide_eq_true (by omega)
                        obtain ⟨⟨m0, m1, m2, m3, m4⟩, hBl⟩ := HM.out _ hK
                        go_wp2_with (first
                          | (go_at_call 18; refine (dataAt_lit 3 1 3 0 4 d (dA d) rfl _).mono ?_; rintro e w6 ⟨rfl, hk6⟩; have hN6 := hN.no hk6)
                          | (go_at_call 16; refine (peek_tot a v M' (dA d) _ hN6.nx.mm).mono ?_; rw [HZ.out]; rintro e w7 ⟨rfl, hw7⟩; subst hw7))
                        go_roundw
                        case rel => exact ⟨d + 1, by omega, by go_num, ⟨rv, wv, vv, rdv, hN6, hK.trans hk6, hG⟩⟩
                        case measure => simp [intOf]; omega
                      · have e1 : decide ((d : Int) < 4) = false := decide_eq_false (by omega)
                        have HL2 := Lib.hid (show LR W wr a v X ra wa U pv (M', t', z.2.2) from ⟨rv, wv, vv, rdv, hN, hK, hG⟩)
                        clear hN hK hG HL1
                        go_wp2_with fail
                        clear e1 hd d0 hd4
                        go_loopw [20] (fun iv wr => ∃ d : Nat, d ≤ 3 ∧ iv = .int .i64 d ∧ LR W wr a v X ra wa U pv (M', t', z.2.2)) (fun i _ => 5 - (intOf i).toNat)
                        case atStart => exact ⟨0, by omega, rfl, HL2.out⟩
                        case round =>
                          obtain ⟨d, hd, rfl, hL⟩ := hrel
                          obtain ⟨rv, wv, vv, rdv, hN, hK, hG⟩ := hL
                          have d0 : (0 : Int) ≤ (d : Int) := by omega
                          by_cases hd4 : d < 3
                          · have e1 : decide ((d : Int) < 3) = true := decide_eq_true (by omega)
                            obtain ⟨⟨m0, m1, m2, m3, m4⟩, hBl⟩ := HM.out _ hK
                            go_wp2_with (first
                              | (go_at_call 25; refine (stripeAt_lit 3 1 3 0 4 d _ rfl _).mono ?_; rintro e w6 ⟨rfl, hk6⟩; have hN6 := hN.no hk6)
                              | (go_at_call 16; refine (peek_tot a v M' _ _ hN6.nx.mm).mono ?_; rw [HZ.out]; rintro e w7 ⟨rfl, hw7⟩; subst hw7))
                            go_roundw
                            case rel => exact ⟨d + 1, by omega, by go_num, ⟨rv, wv, vv, rdv, hN6, hK.trans hk6, hG⟩⟩
                            case measure => simp [intOf]; omega
                          · obtain rfl : d = 3 := by omega
                            have HRD := Lib.hid (show readT t' (dA 0) = (t', 2) by unfold readT; rw [if_neg (by rw [HGO.out.life]; simp)])
                            have HCA := Lib.hid HGO.out.cause
                            have HMA := Lib.hid HGO.out.made
                            clear HL2 HGO
                            go_upto_region 39 with fail
                            have HS := Lib.hid (show ∀ (w' : World) (rv' wv' vv' rdv' : Value), NR w' a v M' X ra wa rv' wv' vv' t' U pv rdv' z.2.2 → Keeps NoS W w' → w'.cell? ⟨U, 0, none⟩ = some (.pointer (some ⟨X, 0, none⟩)) ∧ (w'.cell? ⟨B, 0, none⟩ = some (.int .i64 3) ∧ w'.cell? ⟨B, 1, none⟩ = some (.int .i64 1) ∧ w'.cell? ⟨B, 2, none⟩ = some (.int .i64 3) ∧ w'.cell? ⟨B, 3, none⟩ = some (.int .i64 0) ∧ w'.cell? ⟨B, 4, none⟩ = some (.int .i64 4)) from fun w' rv' wv' vv' rdv' Z kk => ⟨Z.c 0 rfl, (HM.out _ kk).1⟩)
                            have hd := (Keeps.refl NoS wr).drew
                            have hNd := hN.no hd; have hKd := hK.trans hd
                            refine wp_region_held_drew (S := (fun w' => w'.cell? ⟨U, 0, none⟩ = some (.pointer (some ⟨X, 0, none⟩)) ∧ (w'.cell? ⟨B, 0, none⟩ = some (.int .i64 3) ∧ w'.cell? ⟨B, 1, none⟩ = some (.int .i64 1) ∧ w'.cell? ⟨B, 2, none⟩ = some (.int .i64 3) ∧ w'.cell? ⟨B, 3, none⟩ = some (.int .i64 0) ∧ w'.cell? ⟨B, 4, none⟩ = some (.int .i64 4)))) (by kernel_rfl) ((HS.out _ _ _ _ _ hNd hKd)) (fun hHeld => ?_)
                            refine wpAnyH_ready (rs := [0]) (by kernel_rfl) (by simp) ?_
                            refine AllReadyH.cons (by simp only [List.getElem?_toArray, List.getElem?_cons_succ, List.getElem?_cons_zero]; rfl) (fun kC hkC => ?_) AllReadyH.nil
                            go_simp
                            refine (told16_any _).mono ?_; rintro e x1 ⟨rfl, kt⟩; have g1 := hNd.no kt; have K1 := hKd.trans kt
                            (try go_wp2_with fail)
                            refine hkC.out _ _ ((HS.out _ _ _ _ _ g1 K1)) (fun hHeld => ?_)
                            clear hkC kC
                            try simp only [Act.put, List.setIfInBounds_toArray, List.set_cons_zero, List.set_cons_succ]
                            refine wpAnyH_take (i := 1) (v := ?_) (by simp only [List.getElem?_toArray, List.getElem?_cons_succ, List.getElem?_cons_zero]; rfl) (by kernel_rfl) (by kernel_rfl) (by kernel_rfl) (by exact fun _ _ _ h => h) (Or.inl ⟨by rfl, ?_⟩) hHeld ?_
                            rotate_left
                            · intro w hSw; (try dsimp only at hSw); go_simp; (try with_reducible rfl)
                            try simp only [Act.put, List.setIfInBounds_toArray, List.set_cons_zero, List.set_cons_succ]
                            refine wpAnyH_take (i := 2) (v := ?_) (by simp only [List.getElem?_toArray, List.getElem?_cons_succ, List.getElem?_cons_zero]; rfl) (by kernel_rfl) (by kernel_rfl) (by kernel_rfl) (by exact fun _ _ _ h => h) (Or.inl ⟨by rfl, ?_⟩) hHeld ?_
                            rotate_left
                            · intro w hSw; (try dsimp only at hSw); go_simp; (try with_reducible rfl)
                            try simp only [Act.put, List.setIfInBounds_toArray, List.set_cons_zero, List.set_cons_succ]
                            refine wpAnyH_take (i := 3) (v := ?_) (by simp only [List.getElem?_toArray, List.getElem?_cons_succ, List.getElem?_cons_zero]; rfl) (by kernel_rfl) (by kernel_rfl) (by kernel_rfl) (by exact fun _ _ _ h => h) (Or.inl ⟨by rfl, ?_⟩) hHeld ?_
                            rotate_left
                            · intro w hSw; (try dsimp only at hSw); go_simp; (try with_reducible rfl)
                            try simp only [Act.put, List.setIfInBounds_toArray, List.set_cons_zero, List.set_cons_succ]
                            refine wpAnyH_take (i := 4) (v := ?_) (by simp only [List.getElem?_toArray, List.getElem?_cons_succ, List.getElem?_cons_zero]; rfl) (by kernel_rfl) (by kernel_rfl) (by kernel_rfl) (by exact fun _ _ _ h => h) (Or.inl ⟨by rfl, ?_⟩) hHeld ?_
                            rotate_left
                            · intro w hSw; (try dsimp only at hSw); go_simp; (try with_reducible rfl)
                            try simp only [Act.put, List.setIfInBounds_toArray, List.set_cons_zero, List.set_cons_succ]
                            refine wpAnyH_take (i := 5) (v := ?_) (by simp only [List.getElem?_toArray, List.getElem?_cons_succ, List.getElem?_cons_zero]; rfl) (by kernel_rfl) (by kernel_rfl) (by kernel_rfl) (by exact fun _ _ _ h => h) (Or.inl ⟨by rfl, ?_⟩) hHeld ?_
                            rotate_left
                            · intro w hSw; (try dsimp only at hSw); go_simp; (try with_reducible rfl)
                            try simp only [Act.put, List.setIfInBounds_toArray, List.set_cons_zero, List.set_cons_succ]
                            refine wpAnyH_take (i := 6) (v := ?_) (by simp only [List.getElem?_toArray, List.getElem?_cons_succ, List.getElem?_cons_zero]; rfl) (by kernel_rfl) (by kernel_rfl) (by kernel_rfl) (by exact fun _ _ _ h => h) (Or.inl ⟨by rfl, ?_⟩) hHeld ?_
                            rotate_left
                            · intro w hSw; (try dsimp only at hSw); go_simp; (try with_reducible rfl)
                            try simp only [Act.put, List.setIfInBounds_toArray, List.set_cons_zero, List.set_cons_succ]
                            refine wpAnyH_take (i := 7) (v := ?_) (by simp only [List.getElem?_toArray, List.getElem?_cons_succ, List.getElem?_cons_zero]; rfl) (by kernel_rfl) (by kernel_rfl) (by kernel_rfl) (by exact fun _ _ _ h => h) (Or.inl ⟨by rfl, ?_⟩) hHeld ?_
                            rotate_left
                            · intro w hSw; (try dsimp only at hSw); go_simp; (try with_reducible rfl)
                            try simp only [Act.put, List.setIfInBounds_toArray, List.set_cons_zero, List.set_cons_succ]
                            refine wpAnyH_take (i := 8) (v := ?_) (by simp only [List.getElem?_toArray, List.getElem?_cons_succ, List.getElem?_cons_zero]; rfl) (by kernel_rfl) (by kernel_rfl) (by kernel_rfl) (by exact fun _ _ _ h => h) (Or.inl ⟨by rfl, ?_⟩) hHeld ?_
                            rotate_left
                            · intro w hSw; (try dsimp only at hSw); go_simp; (try with_reducible rfl)
                            try simp only [Act.put, List.setIfInBounds_toArray, List.set_cons_zero, List.set_cons_succ]
                            refine wpAnyH_take (i := 9) (v := ?_) (by simp only [List.getElem?_toArray, List.getElem?_cons_succ, List.getElem?_cons_zero]; rfl) (by kernel_rfl) (by kernel_rfl) (by kernel_rfl) (by exact fun _ _ _ h => h) (Or.inl ⟨by rfl, ?_⟩) hHeld ?_
                            rotate_left
                            · intro w hSw; (try dsimp only at hSw); go_simp; (try with_reducible rfl)
                            try simp only [Act.put, List.setIfInBounds_toArray, List.set_cons_zero, List.set_cons_succ]
                            refine wpAnyH_take (i := 11) (v := ?_) (by simp only [List.getElem?_toArray, List.getElem?_cons_succ, List.getElem?_cons_zero]; rfl) (by kernel_rfl) (by kernel_rfl) (by kernel_rfl) (by exact fun _ _ _ h => h) (Or.inl ⟨by rfl, ?_⟩) hHeld ?_
                            rotate_left
                            · intro w hSw; (try dsimp only at hSw); go_simp; (try with_reducible rfl)
                            try simp only [Act.put, List.setIfInBounds_toArray, List.set_cons_zero, List.set_cons_succ]
                            refine wpAnyH_ready (rs := [10]) (by kernel_rfl) (by simp) ?_
                            refine AllReadyH.cons (by simp only [List.getElem?_toArray, List.getElem?_cons_succ, List.getElem?_cons_zero]; rfl) (fun kC hkC => ?_) AllReadyH.nil
                            go_simp
                            refine (xCause_any g1.nx).mono ?_; (try dsimp only); rw [HCA.out]; rintro e x2 ⟨rfl, hx⟩; subst hx
                            (try go_wp2_with fail)
                            refine hkC.out _ _ ((HS.out _ _ _ _ _ g1 K1)) (fun hHeld => ?_)
                            clear hkC kC
                            try simp only [Act.put, List.setIfInBounds_toArray, List.set_cons_zero, List.set_cons_succ]
                            refine wpAnyH_take (i := 12) (v := ?_) (by simp only [List.getElem?_toArray, List.getElem?_cons_succ, List.getElem?_cons_zero]; rfl) (by kernel_rfl) (by kernel_rfl) (by kernel_rfl) (by exact fun _ _ _ h => h) (Or.inl ⟨by rfl, ?_⟩) hHeld ?_
                            rotate_left
                            · intro w hSw; (try dsimp only at hSw); go_simp; (try with_reducible rfl)
                            try simp only [Act.put, List.setIfInBounds_toArray, List.set_cons_zero, List.set_cons_succ]
                            refine wpAnyH_take (i := 13) (v := ?_) (by simp only [List.getElem?_toArray, List.getElem?_cons_succ, List.getElem?_cons_zero]; rfl) (by kernel_rfl) (by kernel_rfl) (by kernel_rfl) (by exact fun _ _ _ h => h) (Or.inl ⟨by rfl, ?_⟩) hHeld ?_
                            rotate_left
                            · intro w hSw; (try dsimp only at hSw); go_simp; (try with_reducible rfl)
                            try simp only [Act.put, List.setIfInBounds_toArray, List.set_cons_zero, List.set_cons_succ]
                            refine wpAnyH_take (i := 14) (v := ?_) (by simp only [List.getElem?_toArray, List.getElem?_cons_succ, List.getElem?_cons_zero]; rfl) (by kernel_rfl) (by kernel_rfl) (by kernel_rfl) (by exact fun _ _ _ h => h) (Or.inl ⟨by rfl, ?_⟩) hHeld ?_
                            rotate_left
                            · intro w hSw; (try dsimp only at hSw); go_simp; (try with_reducible rfl)
                            try simp only [Act.put, List.setIfInBounds_toArray, List.set_cons_zero, List.set_cons_succ]
                            refine wpAnyH_take (i := 15) (v := ?_) (by simp only [List.getElem?_toArray, List.getElem?_cons_succ, List.getElem?_cons_zero]; rfl) (by kernel_rfl) (by kernel_rfl) (by kernel_rfl) (by exact fun _ _ _ h => h) (Or.inl ⟨by rfl, ?_⟩) hHeld ?_
                            rotate_left
                            · intro w hSw; (try dsimp only at hSw); go_simp; (try with_reducible rfl)
                            try simp only [Act.put, List.setIfInBounds_toArray, List.set_cons_zero, List.set_cons_succ]
                            refine wpAnyH_take (i := 16) (v := ?_) (by simp only [List.getElem?_toArray, List.getElem?_cons_succ, List.getElem?_cons_zero]; rfl) (by kernel_rfl) (by kernel_rfl) (by kernel_rfl) (by exact fun _ _ _ h => h) (Or.inl ⟨by rfl, ?_⟩) hHeld ?_
                            rotate_left
                            · intro w hSw; (try dsimp only at hSw); go_simp; (try with_reducible rfl)
                            try simp only [Act.put, List.setIfInBounds_toArray, List.set_cons_zero, List.set_cons_succ]
                            refine wpAnyH_take (i := 17) (v := ?_) (by simp only [List.getElem?_toArray, List.getElem?_cons_succ, List.getElem?_cons_zero]; rfl) (by kernel_rfl) (by kernel_rfl) (by kernel_rfl) (by exact fun _ _ _ h => h) (Or.inl ⟨by rfl, ?_⟩) hHeld ?_
                            rotate_left
                            · intro w hSw; (try dsimp only at hSw); go_simp; (try with_reducible rfl)
                            try simp only [Act.put, List.setIfInBounds_toArray, List.set_cons_zero, List.set_cons_succ]
                            refine wpAnyH_take (i := 18) (v := ?_) (by simp only [List.getElem?_toArray, List.getElem?_cons_succ, List.getElem?_cons_zero]; rfl) (by kernel_rfl) (by kernel_rfl) (by kernel_rfl) (by exact fun _ _ _ h => h) (Or.inl ⟨by rfl, ?_⟩) hHeld ?_
                            rotate_left
                            · intro w hSw; (try dsimp only at hSw); go_simp; (try with_reducible rfl)
                            try simp only [Act.put, List.setIfInBounds_toArray, List.set_cons_zero, List.set_cons_succ]
                            refine wpAnyH_ready (rs := [19]) (by kernel_rfl) (by simp) ?_
                            refine AllReadyH.cons (by simp only [List.getElem?_toArray, List.getElem?_cons_succ, List.getElem?_cons_zero]; rfl) (fun kC hkC => ?_) AllReadyH.nil
                            go_simp
                            refine (xMade_any g1.nx).mono ?_; (try dsimp only); rw [HMA.out]; rintro e x2 ⟨rfl, hx⟩; subst hx
                            (try go_wp2_with fail)
                            refine hkC.out _ _ ((HS.out _ _ _ _ _ g1 K1)) (fun hHeld => ?_)
                            clear hkC kC
                            try simp only [Act.put, List.setIfInBounds_toArray, List.set_cons_zero, List.set_cons_succ]
                            refine wpAnyH_take (i := 20) (v := ?_) (by simp only [List.getElem?_toArray, List.getElem?_cons_succ, List.getElem?_cons_zero]; rfl) (by kernel_rfl) (by kernel_rfl) (by kernel_rfl) (by exact fun _ _ _ h => h) (Or.inl ⟨by rfl, ?_⟩) hHeld ?_
                            rotate_left
                            · intro w hSw; (try dsimp only at hSw); go_simp; (try with_reducible rfl)
                            try simp only [Act.put, List.setIfInBounds_toArray, List.set_cons_zero, List.set_cons_succ]
                            refine wpAnyH_take (i := 21) (v := ?_) (by simp only [List.getElem?_toArray, List.getElem?_cons_succ, List.getElem?_cons_zero]; rfl) (by kernel_rfl) (by kernel_rfl) (by kernel_rfl) (by exact fun _ _ _ h => h) (Or.inl ⟨by rfl, ?_⟩) hHeld ?_
                            rotate_left
                            · intro w hSw; (try dsimp only at hSw); go_simp; (try with_reducible rfl)
                            try simp only [Act.put, List.setIfInBounds_toArray, List.set_cons_zero, List.set_cons_succ]
                            refine wpAnyH_take (i := 22) (v := ?_) (by simp only [List.getElem?_toArray, List.getElem?_cons_succ, List.getElem?_cons_zero]; rfl) (by kernel_rfl) (by kernel_rfl) (by kernel_rfl) (by exact fun _ _ _ h => h) (Or.inl ⟨by rfl, ?_⟩) hHeld ?_
                            rotate_left
                            · intro w hSw; (try dsimp only at hSw); go_simp; (try with_reducible rfl)
                            try simp only [Act.put, List.setIfInBounds_toArray, List.set_cons_zero, List.set_cons_succ]
                            refine wpAnyH_take (i := 23) (v := ?_) (by simp only [List.getElem?_toArray, List.getElem?_cons_succ, List.getElem?_cons_zero]; rfl) (by kernel_rfl) (by kernel_rfl) (by kernel_rfl) (by exact fun _ _ _ h => h) (Or.inl ⟨by rfl, ?_⟩) hHeld ?_
                            rotate_left
                            · intro w hSw; (try dsimp only at hSw); go_simp; (try with_reducible rfl)
                            try simp only [Act.put, List.setIfInBounds_toArray, List.set_cons_zero, List.set_cons_succ]
                            refine wpAnyH_take (i := 24) (v := ?_) (by simp only [List.getElem?_toArray, List.getElem?_cons_succ, List.getElem?_cons_zero]; rfl) (by kernel_rfl) (by kernel_rfl) (by kernel_rfl) (by exact fun _ _ _ h => h) (Or.inl ⟨by rfl, ?_⟩) hHeld ?_
                            rotate_left
                            · intro w hSw; (try dsimp only at hSw); go_simp; (try with_reducible rfl)
                            try simp only [Act.put, List.setIfInBounds_toArray, List.set_cons_zero, List.set_cons_succ]
                            refine wpAnyH_ready (rs := [25]) (by kernel_rfl) (by simp) ?_
                            refine AllReadyH.cons (by simp only [List.getElem?_toArray, List.getElem?_cons_succ, List.getElem?_cons_zero]; rfl) (fun kC hkC => ?_) AllReadyH.nil
                            go_simp
                            refine (threadAt_lit 3 1 3 0 4 1 0 13 (by kernel_rfl) _).mono ?_; rintro e x2 ⟨rfl, kt⟩; have g2 := g1.no kt; have K2 := K1.trans kt
                            (try go_wp2_with fail)
                            refine hkC.out _ _ ((HS.out _ _ _ _ _ g2 K2)) (fun hHeld => ?_)
                            clear hkC kC
                            try simp only [Act.put, List.setIfInBounds_toArray, List.set_cons_zero, List.set_cons_succ]
                            refine wpAnyH_ready (rs := [26]) (by kernel_rfl) (by simp) ?_
                            refine AllReadyH.cons (by simp only [List.getElem?_toArray, List.getElem?_cons_succ, List.getElem?_cons_zero]; rfl) (fun kC hkC => ?_) AllReadyH.nil
                            go_simp
                            refine (peek_tot a v M' 13 _ g2.nx.mm).mono ?_; rw [HZ.out]; rintro e x3 ⟨rfl, hx⟩; subst hx
                            (try go_wp2_with fail)
                            refine hkC.out _ _ ((HS.out _ _ _ _ _ g2 K2)) (fun hHeld => ?_)
                            clear hkC kC
                            try simp only [Act.put, List.setIfInBounds_toArray, List.set_cons_zero, List.set_cons_succ]
                            refine wpAnyH_take (i := 27) (v := ?_) (by simp only [List.getElem?_toArray, List.getElem?_cons_succ, List.getElem?_cons_zero]; rfl) (by kernel_rfl) (by kernel_rfl) (by kernel_rfl) (by exact fun _ _ _ h => h) (Or.inl ⟨by rfl, ?_⟩) hHeld ?_
                            rotate_left
                            · intro w hSw; (try dsimp only at hSw); go_simp; (try with_reducible rfl)
                            try simp only [Act.put, List.setIfInBounds_toArray, List.set_cons_zero, List.set_cons_succ]
                            refine wpAnyH_take (i := 28) (v := ?_) (by simp only [List.getElem?_toArray, List.getElem?_cons_succ, List.getElem?_cons_zero]; rfl) (by kernel_rfl) (by kernel_rfl) (by kernel_rfl) (by exact fun _ _ _ h => h) (Or.inl ⟨by rfl, ?_⟩) hHeld ?_
                            rotate_left
                            · intro w hSw; (try dsimp only at hSw); go_simp; (try with_reducible rfl)
                            try simp only [Act.put, List.setIfInBounds_toArray, List.set_cons_zero, List.set_cons_succ]
                            refine wpAnyH_take (i := 29) (v := ?_) (by simp only [List.getElem?_toArray, List.getElem?_cons_succ, List.getElem?_cons_zero]; rfl) (by kernel_rfl) (by kernel_rfl) (by kernel_rfl) (by exact fun _ _ _ h => h) (Or.inl ⟨by rfl, ?_⟩) hHeld ?_
                            rotate_left
                            · intro w hSw; (try dsimp only at hSw); go_simp; (try with_reducible rfl)
                            try simp only [Act.put, List.setIfInBounds_toArray, List.set_cons_zero, List.set_cons_succ]
                            refine wpAnyH_take (i := 30) (v := ?_) (by simp only [List.getElem?_toArray, List.getElem?_cons_succ, List.getElem?_cons_zero]; rfl) (by kernel_rfl) (by kernel_rfl) (by kernel_rfl) (by exact fun _ _ _ h => h) (Or.inl ⟨by rfl, ?_⟩) hHeld ?_
                            rotate_left
                            · intro w hSw; (try dsimp only at hSw); go_simp; (try with_reducible rfl)
                            try simp only [Act.put, List.setIfInBounds_toArray, List.set_cons_zero, List.set_cons_succ]
                            refine wpAnyH_take (i := 31) (v := ?_) (by simp only [List.getElem?_toArray, List.getElem?_cons_succ, List.getElem?_cons_zero]; rfl) (by kernel_rfl) (by kernel_rfl) (by kernel_rfl) (by exact fun _ _ _ h => h) (Or.inl ⟨by rfl, ?_⟩) hHeld ?_
                            rotate_left
                            · intro w hSw; (try dsimp only at hSw); go_simp; (try with_reducible rfl)
                            try simp only [Act.put, List.setIfInBounds_toArray, List.set_cons_zero, List.set_cons_succ]
                            refine wpAnyH_ready (rs := [32]) (by kernel_rfl) (by simp) ?_
                            refine AllReadyH.cons (by simp only [List.getElem?_toArray, List.getElem?_cons_succ, List.getElem?_cons_zero]; rfl) (fun kC hkC => ?_) AllReadyH.nil
                            go_simp
                            refine (seq_lit 3 1 3 0 4 1 (by kernel_rfl) _).mono ?_; rintro e x3 ⟨rfl, kt⟩; have g3 := g2.no kt; have K3 := K2.trans kt
                            (try go_wp2_with fail)
                            refine hkC.out _ _ ((HS.out _ _ _ _ _ g3 K3)) (fun hHeld => ?_)
                            clear hkC kC
                            try simp only [Act.put, List.setIfInBounds_toArray, List.set_cons_zero, List.set_cons_succ]
                            refine wpAnyH_ready (rs := [33]) (by kernel_rfl) (by simp) ?_
                            refine AllReadyH.cons (by simp only [List.getElem?_toArray, List.getElem?_cons_succ, List.getElem?_cons_zero]; rfl) (fun kC hkC => ?_) AllReadyH.nil
                            go_simp
                            refine (peek_tot a v M' 1 _ g3.nx.mm).mono ?_; rw [HZ.out]; rintro e x4 ⟨rfl, hx⟩; subst hx
                            (try go_wp2_with fail)
                            refine hkC.out _ _ ((HS.out _ _ _ _ _ g3 K3)) (fun hHeld => ?_)
                            clear hkC kC
                            try simp only [Act.put, List.setIfInBounds_toArray, List.set_cons_zero, List.set_cons_succ]
                            refine wpAnyH_take (i := 34) (v := ?_) (by simp only [List.getElem?_toArray, List.getElem?_cons_succ, List.getElem?_cons_zero]; rfl) (by kernel_rfl) (by kernel_rfl) (by kernel_rfl) (by exact fun _ _ _ h => h) (Or.inl ⟨by rfl, ?_⟩) hHeld ?_
                            rotate_left
                            · intro w hSw; (try dsimp only at hSw); go_simp; (try with_reducible rfl)
                            try simp only [Act.put, List.setIfInBounds_toArray, List.set_cons_zero, List.set_cons_succ]
                            refine wpAnyH_take (i := 35) (v := ?_) (by simp only [List.getElem?_toArray, List.getElem?_cons_succ, List.getElem?_cons_zero]; rfl) (by kernel_rfl) (by kernel_rfl) (by kernel_rfl) (by exact fun _ _ _ h => h) (Or.inl ⟨by rfl, ?_⟩) hHeld ?_
                            rotate_left
                            · intro w hSw; (try dsimp only at hSw); go_simp; (try with_reducible rfl)
                            try simp only [Act.put, List.setIfInBounds_toArray, List.set_cons_zero, List.set_cons_succ]
                            refine wpAnyH_take (i := 36) (v := ?_) (by simp only [List.getElem?_toArray, List.getElem?_cons_succ, List.getElem?_cons_zero]; rfl) (by kernel_rfl) (by kernel_rfl) (by kernel_rfl) (by exact fun _ _ _ h => h) (Or.inl ⟨by rfl, ?_⟩) hHeld ?_
                            rotate_left
                            · intro w hSw; (try dsimp only at hSw); go_simp; (try with_reducible rfl)
                            try simp only [Act.put, List.setIfInBounds_toArray, List.set_cons_zero, List.set_cons_succ]
                            refine wpAnyH_take (i := 37) (v := ?_) (by simp only [List.getElem?_toArray, List.getElem?_cons_succ, List.getElem?_cons_zero]; rfl) (by kernel_rfl) (by kernel_rfl) (by kernel_rfl) (by exact fun _ _ _ h => h) (Or.inl ⟨by rfl, ?_⟩) hHeld ?_
                            rotate_left
                            · intro w hSw; (try dsimp only at hSw); go_simp; (try with_reducible rfl)
                            try simp only [Act.put, List.setIfInBounds_toArray, List.set_cons_zero, List.set_cons_succ]
                            refine wpAnyH_take (i := 38) (v := ?_) (by simp only [List.getElem?_toArray, List.getElem?_cons_succ, List.getElem?_cons_zero]; rfl) (by kernel_rfl) (by kernel_rfl) (by kernel_rfl) (by exact fun _ _ _ h => h) (Or.inl ⟨by rfl, ?_⟩) hHeld ?_
                            rotate_left
                            · intro w hSw; (try dsimp only at hSw); go_simp; (try with_reducible rfl)
                            try simp only [Act.put, List.setIfInBounds_toArray, List.set_cons_zero, List.set_cons_succ]
                            refine wpAnyH_take (i := 39) (v := ?_) (by simp only [List.getElem?_toArray, List.getElem?_cons_succ, List.getElem?_cons_zero]; rfl) (by kernel_rfl) (by kernel_rfl) (by kernel_rfl) (by exact fun _ _ _ h => h) (Or.inl ⟨by rfl, ?_⟩) hHeld ?_
                            rotate_left
                            · intro w hSw; (try dsimp only at hSw); go_simp; (try with_reducible rfl)
                            try simp only [Act.put, List.setIfInBounds_toArray, List.set_cons_zero, List.set_cons_succ]
                            refine wpAnyH_take (i := 40) (v := ?_) (by simp only [List.getElem?_toArray, List.getElem?_cons_succ, List.getElem?_cons_zero]; rfl) (by kernel_rfl) (by kernel_rfl) (by kernel_rfl) (by exact fun _ _ _ h => h) (Or.inl ⟨by rfl, ?_⟩) hHeld ?_
                            rotate_left
                            · intro w hSw; (try dsimp only at hSw); go_simp; (try with_reducible rfl)
                            try simp only [Act.put, List.setIfInBounds_toArray, List.set_cons_zero, List.set_cons_succ]
                            refine wpAnyH_take (i := 41) (v := ?_) (by simp only [List.getElem?_toArray, List.getElem?_cons_succ, List.getElem?_cons_zero]; rfl) (by kernel_rfl) (by kernel_rfl) (by kernel_rfl) (by exact fun _ _ _ h => h) (Or.inl ⟨by rfl, ?_⟩) hHeld ?_
                            rotate_left
                            · intro w hSw; (try dsimp only at hSw); go_simp; (try with_reducible rfl)
                            try simp only [Act.put, List.setIfInBounds_toArray, List.set_cons_zero, List.set_cons_succ]
                            refine wpAnyH_ready (rs := [42]) (by kernel_rfl) (by simp) ?_
                            refine AllReadyH.cons (by simp only [List.getElem?_toArray, List.getElem?_cons_succ, List.getElem?_cons_zero]; rfl) (fun kC hkC => ?_) AllReadyH.nil
                            go_simp
                            refine (dataAt_lit 3 1 3 0 4 0 (dA 0) rfl _).mono ?_; rintro e x4 ⟨rfl, kt⟩; have g4 := g3.no kt; have K4 := K3.trans kt
                            (try go_wp2_with fail)
                            refine hkC.out _ _ ((HS.out _ _ _ _ _ g4 K4)) (fun hHeld => ?_)
                            clear hkC kC
                            try simp only [Act.put, List.setIfInBounds_toArray, List.set_cons_zero, List.set_cons_succ]
                            refine wpAnyH_ready (rs := [43]) (by kernel_rfl) (by simp) ?_
                            refine AllReadyH.cons (by simp only [List.getElem?_toArray, List.getElem?_cons_succ, List.getElem?_cons_zero]; rfl) (fun kC hkC => ?_) AllReadyH.nil
                            go_simp
                            refine (xRead_any g4.nx (dA 0)).mono ?_; (try dsimp only); rw [HRD.out]; rintro e x5 ⟨rfl, hP5⟩; obtain ⟨rv5, wv5, vv5, rdv5, g5, K5, _⟩ := LR.after K4 hG (g4.tx hP5)
                            (try go_wp2_with fail)
                            refine hkC.out _ _ ((HS.out _ _ _ _ _ g5 K5)) (fun hHeld => ?_)
                            clear hkC kC
                            try simp only [Act.put, List.setIfInBounds_toArray, List.set_cons_zero, List.set_cons_succ]
                            refine wpAnyH_take (i := 44) (v := ?_) (by simp only [List.getElem?_toArray, List.getElem?_cons_succ, List.getElem?_cons_zero]; rfl) (by kernel_rfl) (by kernel_rfl) (by kernel_rfl) (by exact fun _ _ _ h => h) (Or.inl ⟨by rfl, ?_⟩) hHeld ?_
                            rotate_left
                            · intro w hSw; (try dsimp only at hSw); go_simp; (try with_reducible rfl)
                            try simp only [Act.put, List.setIfInBounds_toArray, List.set_cons_zero, List.set_cons_succ]
                            refine wpAnyH_take (i := 45) (v := ?_) (by simp only [List.getElem?_toArray, List.getElem?_cons_succ, List.getElem?_cons_zero]; rfl) (by kernel_rfl) (by kernel_rfl) (by kernel_rfl) (by exact fun _ _ _ h => h) (Or.inl ⟨by rfl, ?_⟩) hHeld ?_
                            rotate_left
                            · intro w hSw; (try dsimp only at hSw); go_simp; (try with_reducible rfl)
                            try simp only [Act.put, List.setIfInBounds_toArray, List.set_cons_zero, List.set_cons_succ]
                            refine wpAnyH_take (i := 46) (v := ?_) (by simp only [List.getElem?_toArray, List.getElem?_cons_succ, List.getElem?_cons_zero]; rfl) (by kernel_rfl) (by kernel_rfl) (by kernel_rfl) (by exact fun _ _ _ h => h) (Or.inl ⟨by rfl, ?_⟩) hHeld ?_
                            rotate_left
                            · intro w hSw; (try dsimp only at hSw); go_simp; (try with_reducible rfl)
                            try simp only [Act.put, List.setIfInBounds_toArray, List.set_cons_zero, List.set_cons_succ]
                            refine wpAnyH_done (by kernel_rfl) ?_ _
                            go_wp2_with fail
                            go_ret
                            exact ⟨rfl, HWk.out.trans K5⟩
          · have e3 : ((itN k (z0 P)).2.2.fin != 0) = true := by simpa using hf
            have h1 := undo_past HOK.out k (.inl hf) 3
            have HK1 := Lib.hid h1
            clear h1
            go_upto_region 20 with (go_at_call 13; refine (xDecided_any hN.nx).mono ?_; rintro e wd ⟨rfl, hwd⟩; subst hwd)
            go_wp2_with (first
              | (go_at_call 6; refine (told16_any _).mono ?_; rintro e wt ⟨rfl, hkt⟩; have hNt := hN.no hkt; have c0' := hNt.c 0 (z := .pointer (some ⟨X, 0, none⟩)) rfl; have hl' := hNt.lt)
              | (go_at_call 23; refine (xKill_any hNt.nx 3).mono ?_; rw [HK1.out]; rintro e wk ⟨rfl, hNk, hkk⟩))
            go_ret
            refine ⟨rfl, HWk.out.trans ((hK.trans hkt).trans' hkk (fun i hi e => ?_))⟩
            have := hG X (.inl (.inl (.inl rfl)))
            have e' : i = X := e
            omega

theorem norecUndo_walk (w : World) (a0 : Int) (_w0 : (Lit.int .i64 a0).wf = true) (v1 : Value) (L : NRows) (hin : InN 3 w v1 L) (a2 : Int) (_w2 : (Lit.int .i64 a2).wf = true) (a3 : Int) (_w3 : (Lit.int .i64 a3).wf = true) :
    Calls Try.prog 5 #[.int .i64 a0, v1, .int .i64 a2, .int .i64 a3] w fun e w' => e = .returned (.bool true) ∧ Keeps NoS w w' := by
  refine norecUndo_main w a0 a2 a3 v1 L hin (fun k hk => ?_)
  obtain ⟨p, cap, _, _, hc⟩ := hin
  obtain ⟨b, off, _, hcs⟩ := hc (by omega)
  exact (hcs k hk 2 (by decide)).2
end Go.Proofs.Ytfnmgccbghlbjaa
