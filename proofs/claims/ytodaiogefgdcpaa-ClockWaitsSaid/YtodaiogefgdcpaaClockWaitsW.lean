/- While the sequence word is odd nobody bumps it (the walk). -/
import Derived.Test.YtodaiogefgdcpaaClockPlain
import Derived.Test.YtodaiogefgdcpaaHeld
namespace Go.Proofs.Ytodaiogefgdcpaa
open Go.RowKit
theorem TwoT.bumpKeep {T U : TypeId} {W w w' : World} {a c g : Nat} {v u : Value} {M N : MemS} (h : TwoT T U W w a c v u M N) (hA : Apart W g a c v u) (k : Keeps (just g) w w') : TwoT T U W w' a c v u M N :=
  ⟨⟨h.s.m.keep k (fun e => by have e' : a = g := e; have := hA.a; omega) (fun i hi e => by have e' : i = g := e; have := hA.v i hi; omega), h.s.na, h.s.nv, h.s.kp.trans' k (fun i hi e => by have e' : i = g := e; have := hA.w; omega)⟩,
   ⟨h.r.m.keep k (fun e => by have e' : c = g := e; have := hA.c; omega) (fun i hi e => by have e' : i = g := e; have := hA.u i hi; omega), h.r.na, h.r.nv, h.s.kp.trans' k (fun i hi e => by have e' : i = g := e; have := hA.w; omega)⟩, h.ac, h.vc, h.ua, h.vu⟩
/-- the four cells of a bump's own block -/
def setP (w : World) (G : Nat) (b : BumpS) : World := (((w.setCell ⟨G, 0, none⟩ (.int .i64 b.k)).setCell ⟨G, 1, none⟩ (.int .i64 b.s)).setCell ⟨G, 2, none⟩ (.int .i64 b.x)).setCell ⟨G, 3, none⟩ (.int .i64 b.y)
theorem setP_keeps (w : World) (G : Nat) (b : BumpS) : Keeps (just G) w (setP w G b) :=
  ((((Keeps.refl (just G) w).setCell (p := ⟨G, _, none⟩) (fun _ => rfl) _).setCell (p := ⟨G, _, none⟩) (fun _ => rfl) _).setCell (p := ⟨G, _, none⟩) (fun _ => rfl) _).setCell (p := ⟨G, _, none⟩) (fun _ => rfl) _
theorem BumpAt.setP {w : World} {T : TypeId} {G : Nat} {k s x y : Int} (h : BumpAt w T G k s x y) (b : BumpS) : BumpAt (setP w G b) T G b.k b.s b.x b.y := blk_set (blk_set (blk_set (blk_set h 0 _) 1 _) 2 _) 3 _
set_option maxHeartbeats 4000000 in
set_option maxRecDepth 100000 in
theorem clockWaits_walk (w : World) (z : Int) (_e0 : (Lit.int .i64 z).wf = true) (n : Int) (_e1 : (Lit.int .i64 n).wf = true) : Calls Try.prog 8 #[.int .i64 z, .int .i64 n] w fun e w' => e = .returned (.bool true) ∧ Keeps NoS w w' := by
  clear _e0 _e1
  obtain ⟨q, hq, hq0, hq1⟩ : ∃ q, (IntKind.u64.wrap z).tmod 549755813888 = q ∧ 0 ≤ q ∧ q < 549755813888 := ⟨_, rfl, (u64_tmod_bd z 549755813888 (by omega)).1, (u64_tmod_bd z 549755813888 (by omega)).2⟩
  obtain ⟨m, hm, hm0, hm1⟩ : ∃ m, (IntKind.u64.wrap n).tmod 20 = m ∧ 0 ≤ m ∧ m < 20 := ⟨_, rfl, (u64_tmod_bd n 20 (by omega)).1, (u64_tmod_bd n 20 (by omega)).2⟩
  go_enter Try.func8, Try.ntmps8
  go_wp2_with (go_at_call 15; refine (map8_any _).mono ?_; rintro e w1 ⟨rfl, hk1⟩)
  have hB := mapAt_new w1 2 2 4 0 2 25
  have hk1' := hk1.alloc (.cells #[.int .i64 2, .int .i64 2, .int .i64 4, .int .i64 0, .int .i64 2] 25)
  obtain ⟨B, hBe⟩ : ∃ B, w1.heap.size = B := ⟨_, rfl⟩
  have hBl : B < (w1.alloc (.cells #[.int .i64 2, .int .i64 2, .int .i64 4, .int .i64 0, .int .i64 2] 25)).heap.size := by rw [← hBe]; simp
  rw [hBe] at hB
  rw [hBe]
  generalize w1.alloc (.cells #[.int .i64 2, .int .i64 2, .int .i64 4, .int .i64 0, .int .i64 2] 25) = W at *
  refine (both_any 2 2 4 0 2 48 size8 (by decide) (by decide) W).mono ?_
  rintro e w2 ⟨a, c, v, u, rfl, hT⟩
  have HBm := Lib.hid (fun w' (h : Keeps NoS W w') => mapC11 (hB.keep h (fun f => f)))
  have HWk := Lib.hid hk1'
  obtain ⟨m0, m1, m2, m3, m4⟩ := HBm.out _ hT.s.kp
  clear hk1 hk1' hB hBe
  go_wp2_with (first
    | (go_at_call 36; refine (seq_lit 2 2 4 0 2 1 clk8.2 _).mono ?_; rintro e w3 ⟨rfl, hk3⟩; have hT := hT.keep hk3)
    | (go_at_call 24; refine (store_ok a v (M0 48) 1 (2 * q + 1) _ hT.s.m (by rw [M0_len]; decide)).mono ?_; rintro e w4 ⟨rfl, hmm, hkk⟩; have hT := hT.turnS hmm hkk; clear hmm hkk; obtain ⟨n0, n1, n2, n3, n4⟩ := HBm.out _ hT.s.kp)
    | (go_at_call 37; refine (start_any 2 1 _).mono ?_; rw [start21]; rintro r w5 ⟨rfl, hk5⟩; have hT5 := hT.keep hk5; have hb := bumpAt_new w5 65 3 0 0 0; have hAp := hT5.apart; have hT6 := hT5.keep ((Keeps.refl NoS w5).alloc (.cells #[.int .i64 3, .int .i64 0, .int .i64 0, .int .i64 0] 65))))
  have hMl : ((M0 48).store 1 (2 * q + 1)).L.length = 48 := lenC_store.trans (M0_len 48)
  have hMw : ((M0 48).store 1 (2 * q + 1)).word 1 = 2 * q + 1 := by rw [wordC_store (by rw [M0_len]; decide), if_pos rfl]
  generalize (M0 48).store 1 (2 * q + 1) = M1 at *
  obtain ⟨G, hG⟩ : ∃ G, w5.heap.size = G := ⟨_, rfl⟩
  rw [hG] at hb hAp
  (try rw [hG])
  clear hG hT hT5 hk5
  generalize w5.alloc (.cells #[.int .i64 3, .int .i64 0, .int .i64 0, .int .i64 0] 65) = w6 at *
  have HAP := Lib.hid hAp; have HT6 := Lib.hid hT6; have HB6 := Lib.hid hb
  have HMl := Lib.hid hMl; have HMw := Lib.hid hMw
  clear hAp hT6 hb hMl hMw m0 m1 m2 m3 m4 n0 n1 n2 n3 n4
  go_loopw [10] (fun i wr => ∃ (k : Nat) (M : MemS), (k : Int) ≤ m ∧ i = .int .i64 k ∧ TwoR W wr a c v u M (M0 48) ∧ M.L.length = 48 ∧ M.word 1 = 2 * q + 1 ∧ BumpAt wr 65 G 3 0 0 0) (fun i _ => m.toNat - (intOf i).toNat)
  case atStart => exact ⟨0, M1, by omega, rfl, HT6.out, HMl.out, HMw.out, HB6.out⟩
  case round =>
    obtain ⟨k, M, hkm, rfl, hT, hMl, hMw, hb⟩ := hrel
    obtain ⟨⟨b0, b1, b2, b3⟩, g0, g1, g2, g3, gz⟩ := hb.cells
    obtain ⟨m0, m1, m2, m3, m4⟩ := HBm.out _ hT.s.kp
    have hodd : ¬ M.word 1 % 2 = 0 := by omega
    have hst := step3_odd (x := 0) (y := 0) hMl hodd
    have hat : M.atP 1 = 2 * q + 1 := (atP_nat (n := 1) (by omega)).trans hMw
    have HST := Lib.hid hst; have HT := Lib.hid hT; have HB := Lib.hid hb; have HMl := Lib.hid hMl; have HMw := Lib.hid hMw
    have hat2 : (M.load 1).atP 1 = 2 * q + 1 := (atP_nat (n := 1) (by rw [lenC_load, hMl]; decide)).trans hMw
    have HAT := Lib.hid hat2
    clear hst hT hb hMl hMw hodd hat hat2 HT6 HB6
    by_cases hlt : (k : Int) < m
    · go_wp2_with (first
        | (go_at_call 38; refine (step_any 2 2 4 0 2 3 0 0 0 a v M _ HT.out.s.m).mono ?_; rw [HST.out]; unfold bumpV; dsimp only; rintro e w7 ⟨rfl, hm7, hk7⟩; have hT7 := HT.out.turnS hm7 hk7; have hb7 := HB.out.keep hk7 (HAP.out.na (Nat.le_refl _)); obtain ⟨⟨B0, B1, B2, B3⟩, G0, G1, G2, G3, GZ⟩ := hb7.cells; have hP := hb7.setP ⟨3, 0, 0, 0⟩; have hT8 := hT7.bumpKeep HAP.out (setP_keeps w7 G ⟨3, 0, 0, 0⟩); unfold setP at hP hT8; dsimp only at hP hT8; obtain ⟨n0, n1, n2, n3, n4⟩ := HBm.out _ hT8.s.kp; have HT8 := Lib.hid hT8; have HP := Lib.hid hP; clear hm7 hk7 hT7 hb7 hT8 hP)
        | (go_at_call 36; refine (seq_lit 2 2 4 0 2 1 clk8.2 _).mono ?_; rintro e w8 ⟨rfl, hk8⟩; have HT9 := Lib.hid (HT8.out.keep hk8); have HP9 := Lib.hid (HP.out.keep hk8 (fun f => f)))
        | (go_at_call 19; refine (peek_tot a v (M.load 1) 1 _ HT9.out.s.m).mono ?_; rw [HAT.out]; rintro e w9 ⟨rfl, rfl⟩))
      go_roundw
      case rel => exact ⟨k + 1, M.load 1, by omega, by go_num, HT9.out, HMl.out, HMw.out, HP9.out⟩
      case measure => simp [intOf]; omega
    · have hle : m ≤ (k : Int) := by omega
      have hl2 : (M.store 1 (2 * q + 1 + 1)).L.length = 48 := lenC_store.trans HMl.out
      have hw2 : (M.store 1 (2 * q + 1 + 1)).word 1 = 2 * q + 1 + 1 := by rw [wordC_store (by rw [HMl.out]; decide), if_pos rfl]
      have hs1 := step3_even (x := 0) (y := 0) hl2 (by rw [hw2]; omega)
      rw [hw2] at hs1
      have hn1 : 1 < M.L.length := by rw [HMl.out]; decide
      have HN1 := Lib.hid hn1
      have e2 : wrap64 (2 * q + 1 + 1 + 2) = 2 * q + 1 + 3 := (wrap64_id (by omega) (by omega)).trans (by omega)
      have hs2 := step3_swap (M := (M.store 1 (2 * q + 1 + 1)).load 1) (x := 2 * q + 1 + 1) (y := 0) hl2 hw2
      rw [e2] at hs2
      have hw3 : (((M.store 1 (2 * q + 1 + 1)).load 1).swap 1 (2 * q + 1 + 1) (2 * q + 1 + 3)).atP 1 = 2 * q + 1 + 3 := by
        refine (atP_nat (n := 1) (by rw [lenC_swap, lenC_load, hl2]; decide)).trans ?_
        rw [wordC_swap (by rw [lenC_load, hl2]; decide), if_pos ⟨rfl, hw2⟩]
      have HS1 := Lib.hid hs1; have HS2 := Lib.hid hs2; have HW3 := Lib.hid hw3
      clear hn1 hl2 hw2 hs1 hs2 hw3 e2
      go_wp2_with (first
        | (go_at_call 36; refine (seq_lit 2 2 4 0 2 1 clk8.2 _).mono ?_; rintro e w8 ⟨rfl, hk8⟩; have HT9 := Lib.hid (HT.out.keep hk8); have HP9 := Lib.hid (HB.out.keep hk8 (fun f => f)))
        | (go_at_call 24; refine (store_ok a v M 1 (2 * q + 1 + 1) _ HT9.out.s.m HN1.out).mono ?_; rintro e w9 ⟨rfl, hmm, hkk⟩; have hT := (HT9.out.turnS hmm hkk).keep ((Keeps.refl NoS _).drew); have hb := (HP9.out.keep hkk (HAP.out.na (Nat.le_refl _))).keep ((Keeps.refl NoS _).drew) (fun f => f); clear hmm hkk; have hm := HBm.out _ hT.s.kp; have hc := hb.cells.1))
      refine wp_region_kept_drew 7 (fun w' => (w'.cell? ⟨B, 0, none⟩ = some (.int .i64 2) ∧ w'.cell? ⟨B, 1, none⟩ = some (.int .i64 2) ∧ w'.cell? ⟨B, 2, none⟩ = some (.int .i64 4) ∧ w'.cell? ⟨B, 3, none⟩ = some (.int .i64 0) ∧ w'.cell? ⟨B, 4, none⟩ = some (.int .i64 2)) ∧ (w'.cell? ⟨G, 0, none⟩ = some (.int .i64 3) ∧ w'.cell? ⟨G, 1, none⟩ = some (.int .i64 0) ∧ w'.cell? ⟨G, 2, none⟩ = some (.int .i64 0) ∧ w'.cell? ⟨G, 3, none⟩ = some (.int .i64 0))) 7 (fun _ => True) (by kernel_rfl) (⟨hm, hc⟩) (trivial) (fun hK => ?_)
      refine wpAnyK_take1 (i := 0) (v := ?_) (by simp only [List.getElem?_toArray, List.getElem?_cons_succ, List.getElem?_cons_zero]; rfl) (by kernel_rfl) (by kernel_rfl) (by kernel_rfl) (by kernel_rfl) (by kernel_rfl) (by kernel_rfl) (by exact fun _ _ _ h => h) (Or.inl ⟨by rfl, ?_⟩) (hK _) ?_
      rotate_left
      · intro w hSw; (try dsimp only at hSw); go_simp; (try with_reducible rfl)
      try simp only [Act.put, List.setIfInBounds_toArray, List.set_cons_zero, List.set_cons_succ]
      refine wpAnyK_take1 (i := 1) (v := ?_) (by simp only [List.getElem?_toArray, List.getElem?_cons_succ, List.getElem?_cons_zero]; rfl) (by kernel_rfl) (by kernel_rfl) (by kernel_rfl) (by kernel_rfl) (by kernel_rfl) (by kernel_rfl) (by exact fun _ _ _ h => h) (Or.inl ⟨by rfl, ?_⟩) (hK _) ?_
      rotate_left
      · intro w hSw; (try dsimp only at hSw); go_simp; (try with_reducible rfl)
      try simp only [Act.put, List.setIfInBounds_toArray, List.set_cons_zero, List.set_cons_succ]
      refine wpAnyK_take1 (i := 2) (v := ?_) (by simp only [List.getElem?_toArray, List.getElem?_cons_succ, List.getElem?_cons_zero]; rfl) (by kernel_rfl) (by kernel_rfl) (by kernel_rfl) (by kernel_rfl) (by kernel_rfl) (by kernel_rfl) (by exact fun _ _ _ h => h) (Or.inl ⟨by rfl, ?_⟩) (hK _) ?_
      rotate_left
      · intro w hSw; (try dsimp only at hSw); go_simp; (try with_reducible rfl)
      try simp only [Act.put, List.setIfInBounds_toArray, List.set_cons_zero, List.set_cons_succ]
      refine wpAnyK_take1 (i := 3) (v := ?_) (by simp only [List.getElem?_toArray, List.getElem?_cons_succ, List.getElem?_cons_zero]; rfl) (by kernel_rfl) (by kernel_rfl) (by kernel_rfl) (by kernel_rfl) (by kernel_rfl) (by kernel_rfl) (by exact fun _ _ _ h => h) (Or.inl ⟨by rfl, ?_⟩) (hK _) ?_
      rotate_left
      · intro w hSw; (try dsimp only at hSw); go_simp; (try with_reducible rfl)
      try simp only [Act.put, List.setIfInBounds_toArray, List.set_cons_zero, List.set_cons_succ]
      refine wpAnyK_take1 (i := 4) (v := ?_) (by simp only [List.getElem?_toArray, List.getElem?_cons_succ, List.getElem?_cons_zero]; rfl) (by kernel_rfl) (by kernel_rfl) (by kernel_rfl) (by kernel_rfl) (by kernel_rfl) (by kernel_rfl) (by exact fun _ _ _ h => h) (Or.inl ⟨by rfl, ?_⟩) (hK _) ?_
      rotate_left
      · intro w hSw; (try dsimp only at hSw); go_simp; (try with_reducible rfl)
      try simp only [Act.put, List.setIfInBounds_toArray, List.set_cons_zero, List.set_cons_succ]
      refine wpAnyK_one (i := 5) (by kernel_rfl) (by simp only [List.getElem?_toArray, List.getElem?_cons_succ, List.getElem?_cons_zero]; rfl) (fun kC hkC => ?_)
      go_simp
      refine (step_any 2 2 4 0 2 3 0 0 0 a v (M.store 1 (2 * q + 1 + 1)) _ hT.s.m).mono ?_; rw [HS1.out]; unfold bumpV; dsimp only; rintro e wa ⟨rfl, hma, hka⟩; have hTa := hT.turnS hma hka; have hba := hb.keep hka (HAP.out.na (Nat.le_refl _)); have hMa := HBm.out _ hTa.s.kp; have hca := hba.cells.1
      (try go_wp2_with fail)
      refine hkC.out _ _ (⟨hMa, hca⟩) (trivial) (fun hK => ?_)
      clear hkC kC
      try simp only [Act.put, List.setIfInBounds_toArray, List.set_cons_zero, List.set_cons_succ]
      refine wpAnyK_one (i := 6) (by kernel_rfl) (by simp only [List.getElem?_toArray, List.getElem?_cons_succ, List.getElem?_cons_zero]; rfl) (fun kC hkC => ?_)
      go_simp
      refine (step_any 2 2 4 0 2 3 1 (2 * q + 1 + 1) 0 a v ((M.store 1 (2 * q + 1 + 1)).load 1) _ hTa.s.m).mono ?_; rw [HS2.out]; unfold bumpV; dsimp only; rintro e wb ⟨rfl, hmb, hkb⟩; have hTb := hTa.turnS hmb hkb; have hbb := hba.keep hkb (HAP.out.na (Nat.le_refl _)); have hMb := HBm.out _ hTb.s.kp; have hcb := hbb.cells.1; obtain ⟨_, G0, G1, G2, G3, GZ⟩ := hbb.cells; have hP := hbb.setP ⟨3, 9, 2 * q + 1 + 1, 2 * q + 1 + 3⟩; have hT8 := hTb.bumpKeep HAP.out (setP_keeps wb G ⟨3, 9, 2 * q + 1 + 1, 2 * q + 1 + 3⟩); unfold setP at hP hT8; dsimp only at hP hT8; have HP := Lib.hid hP; have HT8 := Lib.hid hT8; clear hP hT8
      (try go_wp2_with fail)
      refine hkC.out _ _ (⟨hMb, hcb⟩) (trivial) (fun hK => ?_)
      clear hkC kC
      try simp only [Act.put, List.setIfInBounds_toArray, List.set_cons_zero, List.set_cons_succ]
      refine wpAnyK_last (i := 7) (by kernel_rfl) (by simp only [List.getElem?_toArray, List.getElem?_cons_succ, List.getElem?_cons_zero]; rfl) (by kernel_rfl) (by kernel_rfl) (fun kC hkC => ?_)
      go_simp
      refine hkC.out _ _ ?_
      clear hkC kC
      try simp only [Act.put, List.setIfInBounds_toArray, List.set_cons_zero, List.set_cons_succ]
      refine wpAnyK_done (by kernel_rfl) ?_ _
      generalize (((wb.setCell ⟨G, 0, none⟩ (.int .i64 3)).setCell ⟨G, 1, none⟩ (.int .i64 9)).setCell ⟨G, 2, none⟩ (.int .i64 (2 * q + 1 + 1))).setCell ⟨G, 3, none⟩ (.int .i64 (2 * q + 1 + 3)) = wz at *
      obtain ⟨⟨P0, P1, P2, P3⟩, _⟩ := HP.out.cells
      obtain ⟨p0, p1, p2, p3, p4⟩ := HBm.out _ HT8.out.s.kp
      clear hK hT hb hTa hba hTb hbb hMa hca hMb hcb hm hc b0 b1 b2 b3 g0 g1 g2 g3 gz m0 m1 m2 m3 m4 G0 G1 G2 G3 GZ
      go_wp2_with (first
        | (go_at_call 34; refine (told11_any _).mono ?_; rintro e wc ⟨rfl, hkc⟩; have HTc := Lib.hid (HT8.out.keep hkc); obtain ⟨⟨Q0, Q1, Q2, Q3⟩, _⟩ := (HP.out.keep hkc (fun f => f)).cells; obtain ⟨q0, q1, q2, q3, q4⟩ := HBm.out _ HTc.out.s.kp)
        | (go_at_call 36; refine (seq_lit 2 2 4 0 2 1 clk8.2 _).mono ?_; rintro e wd ⟨rfl, hkd⟩; have HTd := Lib.hid (HTc.out.keep hkd))
        | (go_at_call 19; refine (peek_tot a v _ 1 _ HTd.out.s.m).mono ?_; rw [HW3.out]; rintro e we ⟨rfl, rfl⟩))
      go_ret
      exact ⟨rfl, HWk.out.trans HTd.out.s.kp⟩
end Go.Proofs.Ytodaiogefgdcpaa
