/- Two locks have nothing to do with each other (the walk). -/
import Derived.Test.YtodaiogefgdcpaaApart
import Derived.Test.YtodaiogefgdcpaaHeld
namespace Go.Proofs.Ytodaiogefgdcpaa
open Go.RowKit
theorem mapC {w : World} {B : Nat} (h : MapAt w B 2 2 4 0 2) : (w.cell? ⟨B, 0, none⟩ = some (.int .i64 2) ∧ w.cell? ⟨B, 1, none⟩ = some (.int .i64 2) ∧ w.cell? ⟨B, 2, none⟩ = some (.int .i64 4) ∧ w.cell? ⟨B, 3, none⟩ = some (.int .i64 0) ∧ w.cell? ⟨B, 4, none⟩ = some (.int .i64 2)) := h
theorem handC {w : World} {b : Nat} {T : TypeId} {t l s : Int} {r : Bool} {x : Int} (h : HandAt w T b t l s r x) : (w.cell? ⟨b, 0, none⟩ = some (.int .i64 t) ∧ w.cell? ⟨b, 1, none⟩ = some (.int .i64 l) ∧ w.cell? ⟨b, 2, none⟩ = some (.int .i64 s) ∧ w.cell? ⟨b, 3, none⟩ = some (.bool r) ∧ w.cell? ⟨b, 4, none⟩ = some (.int .i64 x)) :=
  ⟨h.cells.1, h.cells.2.1, h.cells.2.2.1, h.cells.2.2.2.1, h.cells.2.2.2.2.1⟩
theorem handF {w : World} {b : Nat} {T : TypeId} {t l s : Int} {r : Bool} {x : Int} (h : HandAt w T b t l s r x) : w.frozen? ⟨b, 0, none⟩ = false ∧ w.frozen? ⟨b, 1, none⟩ = false ∧ w.frozen? ⟨b, 2, none⟩ = false ∧ w.frozen? ⟨b, 3, none⟩ = false ∧ w.frozen? ⟨b, 4, none⟩ = false ∧ b < w.heap.size := h.cells.2.2.2.2.2
set_option maxHeartbeats 40000000 in
set_option maxRecDepth 100000 in
theorem ticketApart_walk (w : World) (p0 : Value) (L : List Int) (f0 : InI w p0 L) (_f1 : ∀ k, k < L.length → (Lit.int .i64 (L.getD k 0)).wf = true) : Calls Try.prog 3 #[p0] w fun e w' => e = .returned (.bool true) ∧ Keeps NoS w w' := by
  obtain ⟨p, cap, rfl, hn, hc, _⟩ := f0
  have HW := Lib.hid hc
  clear hc _f1
  by_cases h200 : L.length ≤ 100
  case neg =>
    go_enter Try.func3, Try.ntmps3
    have h200' : (100 : Int) < (L.length : Int) := by omega
    go_wp2_with (go_at_call 14; refine (told8_any _).mono ?_; rintro e w1 ⟨rfl, hk1⟩)
    go_ret
    exact ⟨rfl, hk1⟩
  go_enter Try.func3, Try.ntmps3
  go_wp2_with (first
    | (go_at_call 15; refine (map8_any _).mono ?_; rintro e w1 ⟨rfl, hk1⟩))
  have hB := mapAt_new w1 2 2 4 0 2 25
  have hk1' := hk1.alloc (.cells #[.int .i64 2, .int .i64 2, .int .i64 4, .int .i64 0, .int .i64 2] 25)
  obtain ⟨B, hBe⟩ : ∃ B, w1.heap.size = B := ⟨_, rfl⟩
  have hBw : w.heap.size ≤ B := by rw [← hBe]; exact hk1.size
  have hBl : B < (w1.alloc (.cells #[.int .i64 2, .int .i64 2, .int .i64 4, .int .i64 0, .int .i64 2] 25)).heap.size := by rw [← hBe]; simp
  rw [hBe] at hB
  rw [hBe]
  generalize w1.alloc (.cells #[.int .i64 2, .int .i64 2, .int .i64 4, .int .i64 0, .int .i64 2] 25) = W at *
  refine (both_any 2 2 4 0 2 48 m8_size (by decide) (by decide) W).mono ?_
  rintro e w2 ⟨a, c0, v, u0, rfl, hT⟩
  have HBm := Lib.hid (fun w' (h : Keeps NoS W w') => mapC (hB.keep h (fun f => f)))
  obtain ⟨m0, m1, m2, m3, m4⟩ := HBm.out _ hT.s.kp
  have HWk := Lib.hid hk1'
  clear hBe hk1 hk1' hB
  go_wp2_with (go_at_call 16; refine (both_any 2 2 4 0 2 48 m8_size (by decide) (by decide) w2).mono ?_; rintro e w3 ⟨c, c1, u, u1, rfl, hT2⟩)
  have hTM : TwoM W w3 a c v u (M0 48) (M0 48) := TwoT.make hT.s hT2.s.m hT2.s.na hT2.s.nv hT2.s.kp
  obtain ⟨G, hG⟩ : ∃ G, w3.heap.size = G := ⟨_, rfl⟩
  obtain ⟨w4, hw4, hr, hA⟩ := apS_new hG hTM
  have HR := Lib.hid hr; have HA := Lib.hid hA; have HW4 := Lib.hid hw4
  have hWB : W.heap.size ≤ G := hA.w
  clear hr hA hT hT2 hTM hw4 m0 m1 m2 m3 m4
  go_wp2_with fail
  rw [HW4.out]
  (try rw [hG])
  clear hG HW4
  go_loopw [11] (fun i wq => ∃ (n : Nat) (M N : MemS) (x y : HandS), n ≤ L.length ∧ i = .int .i64 n ∧ ApS W wq a c v u M N G x y ∧ AP M N x y) (fun i _ => L.length - (intOf i).toNat)
  case atStart => exact ⟨0, _, _, _, _, by omega, rfl, HR.out, AP.start⟩
  case round =>
    obtain ⟨n, M, N, hx, hy, hnl, rfl, hr, hi⟩ := hrel
    have hxe := hi.x
    have hye := hi.y
    have HI := Lib.hid hi
    clear hi HR
    by_cases hlt : n < L.length
    · obtain ⟨b, off, rfl, hcs⟩ := HW.out (fun e => by rw [e] at hlt; simp at hlt)
      have cn := (HWk.out.trans hr.t.s.kp).cell (hcs n hlt) (fun f => f)
      clear hcs
      generalize L.getD n 0 = z at cn
      have hIt : ∀ M' N' x' x2, tkTake ⟨2, 2, 4, 0, 2⟩ M ⟨1, 0, hx.s, false, hx.x⟩ = (M', x') → tkTake ⟨2, 2, 4, 0, 2⟩ N ⟨1, 0, hx.s, false, hx.x⟩ = (N', x2) → x2 = x' ∧ AP M' N' x' hy := fun _ _ _ _ e e2 => HI.out.takeA e e2
      have hId : ∀ M' N' x' x2 z, tkDrop ⟨2, 2, 4, 0, 2⟩ M ⟨1, 0, 9, false, z⟩ = (M', x') → tkDrop ⟨2, 2, 4, 0, 2⟩ N ⟨1, 0, 9, false, z⟩ = (N', x2) → x2 = x' ∧ AP M' N' x' hy := fun _ _ _ _ _ e e2 => HI.out.dropA e e2
      have hJt : ∀ M' y', tkTake ⟨2, 2, 4, 0, 2⟩ M ⟨2, 1, hy.s, false, hy.x⟩ = (M', y') → AP M' N hx y' := fun _ _ e => HI.out.takeB e
      have hJd : ∀ M' y' z, tkDrop ⟨2, 2, 4, 0, 2⟩ M ⟨2, 1, 9, false, z⟩ = (M', y') → AP M' N hx y' := fun _ _ _ e => HI.out.dropB e
      generalize hx.s = xs at *
      generalize hx.x = xx at *
      generalize hy.s = ys at *
      generalize hy.x = yx at *
      subst hxe; subst hye
      have HX := Lib.hid hr
      have HIt := Lib.hid hIt; have HId := Lib.hid hId; have HJt := Lib.hid hJt; have HJd := Lib.hid hJd
      clear hIt hId hJt hJd hr
      have hcx := handC HX.out.A
      have hcy := handC HX.out.B
      have hcz := handC HX.out.C
      dsimp only at hcx hcy hcz
      obtain ⟨x0, x1, x2, x3, x4⟩ := hcx
      obtain ⟨y0, y1, y2, y3, y4⟩ := hcy
      obtain ⟨z0, z1, z2, z3, z4⟩ := hcz
      obtain ⟨m0, m1, m2, m3, m4⟩ := HBm.out _ HX.out.t.s.kp
      have hM := HI.out.lM
      have hN := HI.out.lN
      have HMl := Lib.hid hM; have HNl := Lib.hid hN
      clear hM hN
      obtain ⟨q, hq⟩ : ∃ q, ((IntKind.u64.wrap ((IntKind.u64.wrap z).tdiv 2)).tmod 2 == 0) = q := ⟨_, rfl⟩
      obtain ⟨q2, hq2⟩ : ∃ q, ((IntKind.u64.wrap z).tmod 2 == 0) = q := ⟨_, rfl⟩
      cases q2

      · cases q
        · go_wp2_with fail
          obtain ⟨M', h', hd⟩ : ∃ M' h', tkTake ⟨2, 2, 4, 0, 2⟩ M ⟨1, 0, xs, false, xx⟩ = (M', h') := ⟨_, _, rfl⟩
          obtain ⟨N', h2, hd2⟩ : ∃ N' h2, tkTake ⟨2, 2, 4, 0, 2⟩ N ⟨1, 0, xs, false, xx⟩ = (N', h2) := ⟨_, _, rfl⟩
          obtain ⟨rfl, hap⟩ := HIt.out _ _ _ _ hd hd2
          obtain ⟨t', l', s', r', x'⟩ := h2
          have HD := Lib.hid hd; have HD2 := Lib.hid hd2; have HAP := Lib.hid hap
          clear hd hd2 hap
          have hTd := HX.out.t.keep ((Keeps.refl NoS _).drew)
          have hAd := HX.out.A.keep ((Keeps.refl NoS _).drew) (fun f => f)
          have hBd := HX.out.B.keep ((Keeps.refl NoS _).drew) (fun f => f)
          have hCd := HX.out.C.keep ((Keeps.refl NoS _).drew) (fun f => f)
          refine wp_region_kept_drew 8 (fun w' => (w'.cell? ⟨G, 0, none⟩ = some (.int .i64 1) ∧ w'.cell? ⟨G, 1, none⟩ = some (.int .i64 0) ∧ w'.cell? ⟨G, 2, none⟩ = some (.int .i64 xs) ∧ w'.cell? ⟨G, 3, none⟩ = some (.bool false) ∧ w'.cell? ⟨G, 4, none⟩ = some (.int .i64 xx)) ∧ (w'.cell? ⟨(G + 2), 0, none⟩ = some (.int .i64 1) ∧ w'.cell? ⟨(G + 2), 1, none⟩ = some (.int .i64 0) ∧ w'.cell? ⟨(G + 2), 2, none⟩ = some (.int .i64 xs) ∧ w'.cell? ⟨(G + 2), 3, none⟩ = some (.bool false) ∧ w'.cell? ⟨(G + 2), 4, none⟩ = some (.int .i64 xx)) ∧ (w'.cell? ⟨B, 0, none⟩ = some (.int .i64 2) ∧ w'.cell? ⟨B, 1, none⟩ = some (.int .i64 2) ∧ w'.cell? ⟨B, 2, none⟩ = some (.int .i64 4) ∧ w'.cell? ⟨B, 3, none⟩ = some (.int .i64 0) ∧ w'.cell? ⟨B, 4, none⟩ = some (.int .i64 2))) 9 (fun w' => (w'.cell? ⟨(G + 2), 0, none⟩ = some (.int .i64 1) ∧ w'.cell? ⟨(G + 2), 1, none⟩ = some (.int .i64 0) ∧ w'.cell? ⟨(G + 2), 2, none⟩ = some (.int .i64 xs) ∧ w'.cell? ⟨(G + 2), 3, none⟩ = some (.bool false) ∧ w'.cell? ⟨(G + 2), 4, none⟩ = some (.int .i64 xx)) ∧ (w'.cell? ⟨B, 0, none⟩ = some (.int .i64 2) ∧ w'.cell? ⟨B, 1, none⟩ = some (.int .i64 2) ∧ w'.cell? ⟨B, 2, none⟩ = some (.int .i64 4) ∧ w'.cell? ⟨B, 3, none⟩ = some (.int .i64 0) ∧ w'.cell? ⟨B, 4, none⟩ = some (.int .i64 2))) (by kernel_rfl) (⟨⟨x0, x1, x2, x3, x4⟩, ⟨z0, z1, z2, z3, z4⟩, ⟨m0, m1, m2, m3, m4⟩⟩) (⟨⟨z0, z1, z2, z3, z4⟩, ⟨m0, m1, m2, m3, m4⟩⟩) (fun hK => ?_)
          refine wpAnyK_take1 (i := 0) (v := ?_) (by simp only [List.getElem?_toArray, List.getElem?_cons_succ, List.getElem?_cons_zero]; rfl) (by kernel_rfl) (by kernel_rfl) (by kernel_rfl) (by kernel_rfl) (by kernel_rfl) (by kernel_rfl) (by exact fun _ _ _ h => h) (Or.inl ⟨by rfl, ?_⟩) (hK _) ?_
          rotate_left
          · intro w hSw; (try dsimp only at hSw); go_simp; (try with_reducible rfl)
          try simp only [Act.put, List.setIfInBounds_toArray, List.set_cons_zero, List.set_cons_succ]
          refine wpAnyK_take1 (i := 1) (v := ?_) (by simp only [List.getElem?_toArray, List.getElem?_cons_succ, List.getElem?_cons_zero]; rfl) (by kernel_rfl) (by kernel_rfl) (by kernel_rfl) (by kernel_rfl) (by kernel_rfl) (by kernel_rfl) (by exact fun _ _ _ h => h) (Or.inl ⟨by rfl, ?_⟩) (hK _) ?_
          rotate_left
          · intro w hSw; (try dsimp only at hSw); go_simp; (try with_reducible rfl)
          try simp only [Act.put, List.setIfInBounds_toArray, List.set_cons_zero, List.set_cons_succ]
          refine wpAnyK_take1 (i := 2) (v := ?_) (by simp only [List.getElem?_toArray, List.getElem?_cons_succ, List.getElem?_cons_zero]; rfl) (by kernel_rfl) (by kernel_rfl) (by kernel_rfl) (by kernel_rfl) (by kernel_rfl) (by kernel_rfl) (by exact fun _ _ _ h => h) (Or.inl ⟨by rfl, ?_⟩) (hK _) ?_
          rotate_left
          · intro w hSw; (try dsimp only at hSw); go_simp; (try with_reducible rfl)
          try simp only [Act.put, List.setIfInBounds_toArray, List.set_cons_zero, List.set_cons_succ]
          refine wpAnyK_take2 (i := 4) (v := ?_) (by simp only [List.getElem?_toArray, List.getElem?_cons_succ, List.getElem?_cons_zero]; rfl) (by kernel_rfl) (by kernel_rfl) (by kernel_rfl) (by kernel_rfl) (by kernel_rfl) (by kernel_rfl) (by exact fun _ _ _ h => h) (Or.inl ⟨by rfl, ?_⟩) (hK _) ?_
          rotate_left
          · intro w hSw; (try dsimp only at hSw); go_simp; (try with_reducible rfl)
          try simp only [Act.put, List.setIfInBounds_toArray, List.set_cons_zero, List.set_cons_succ]
          refine wpAnyK_take2 (i := 5) (v := ?_) (by simp only [List.getElem?_toArray, List.getElem?_cons_succ, List.getElem?_cons_zero]; rfl) (by kernel_rfl) (by kernel_rfl) (by kernel_rfl) (by kernel_rfl) (by kernel_rfl) (by kernel_rfl) (by exact fun _ _ _ h => h) (Or.inl ⟨by rfl, ?_⟩) (hK _) ?_
          rotate_left
          · intro w hSw; (try dsimp only at hSw); go_simp; (try with_reducible rfl)
          try simp only [Act.put, List.setIfInBounds_toArray, List.set_cons_zero, List.set_cons_succ]
          refine wpAnyK_take2 (i := 6) (v := ?_) (by simp only [List.getElem?_toArray, List.getElem?_cons_succ, List.getElem?_cons_zero]; rfl) (by kernel_rfl) (by kernel_rfl) (by kernel_rfl) (by kernel_rfl) (by kernel_rfl) (by kernel_rfl) (by exact fun _ _ _ h => h) (Or.inl ⟨by rfl, ?_⟩) (hK _) ?_
          rotate_left
          · intro w hSw; (try dsimp only at hSw); go_simp; (try with_reducible rfl)
          try simp only [Act.put, List.setIfInBounds_toArray, List.set_cons_zero, List.set_cons_succ]
          refine wpAnyK_one (i := 3) (by kernel_rfl) (by simp only [List.getElem?_toArray, List.getElem?_cons_succ, List.getElem?_cons_zero]; rfl) (fun kC hkC => ?_)
          go_simp
          refine (take_any 2 2 4 0 2 1 0 xs false xx a v M _ hTd.s.m).mono ?_; rw [HD.out]; unfold handV; dsimp only; rintro e w5 ⟨rfl, hm, hk⟩; have hT5 := hTd.turnS hm hk; have m5 := HBm.out _ hT5.s.kp; have hA5 := hAd.keep hk (HA.out.na (Nat.le_refl _)); have hB5 := hBd.keep hk (HA.out.na (by omega)); have hC5 := hCd.keep hk (HA.out.na (by omega)); have hX5 := handC hA5; have hZ5 := handC hC5; (try dsimp only at hX5 hZ5); clear hm hk
          (try go_wp2_with fail)
          refine hkC.out _ _ (⟨hX5, hZ5, m5⟩) (⟨hZ5, m5⟩) (fun hK => ?_)
          clear hkC kC
          try simp only [Act.put, List.setIfInBounds_toArray, List.set_cons_zero, List.set_cons_succ]
          refine wpAnyK_one (i := 7) (by kernel_rfl) (by simp only [List.getElem?_toArray, List.getElem?_cons_succ, List.getElem?_cons_zero]; rfl) (fun kC hkC => ?_)
          go_simp
          refine (take_any 2 2 4 0 2 1 0 xs false xx c u N _ hT5.r.m).mono ?_; rw [HD2.out]; unfold handV; dsimp only; rintro e w7 ⟨rfl, hm, hk⟩; have hT7 := hT5.turnR hm hk; have m7 := HBm.out _ hT7.s.kp; have hA7 := hA5.keep hk (HA.out.nc (Nat.le_refl _)); have hB7 := hB5.keep hk (HA.out.nc (by omega)); have hC7 := hC5.keep hk (HA.out.nc (by omega)); have hX7 := handC hA7; have hZ7 := handC hC7; (try dsimp only at hX7 hZ7); obtain ⟨F0, F1, F2, F3, F4, F5⟩ := handF hA7; obtain ⟨G0, G1, G2, G3, G4, G5⟩ := handF hC7; have hS7 : ApS W (setB (setB w7 G ⟨t', l', s', r', x'⟩) (G + 2) ⟨t', l', s', r', x'⟩) a c v u M' N' G ⟨t', l', s', r', x'⟩ ⟨2, 1, ys, false, yx⟩ := ⟨(hT7.setB HA.out (Nat.le_refl _) _).setB HA.out (by omega) _, (HandAt.setB (x := ⟨1, 0, xs, false, xx⟩) hA7 _).outB (by omega) _, (HandAt.outB (x := ⟨2, 1, ys, false, yx⟩) hB7 (by omega) _).outB (by omega) _, HandAt.setB (x := ⟨1, 0, xs, false, xx⟩) (HandAt.outB (x := ⟨1, 0, xs, false, xx⟩) hC7 (by omega) _) _⟩; have HS := Lib.hid hS7; have hyS := handC (HandAt.outB (g := G) (x := ⟨1, 0, xs, false, xx⟩) hC7 (by omega) ⟨t', l', s', r', x'⟩); have mS := HBm.out _ (hT7.setB HA.out (Nat.le_refl _) ⟨t', l', s', r', x'⟩).s.kp; unfold setB at hyS mS; (try dsimp only at hyS mS); clear hm hk hS7
          (try go_wp2_with fail)
          refine hkC.out _ _ (⟨hX7, hZ7, m7⟩) (⟨hZ7, m7⟩) (fun hK => ?_)
          clear hkC kC
          try simp only [Act.put, List.setIfInBounds_toArray, List.set_cons_zero, List.set_cons_succ]
          refine wpAnyK_mid (i := 8) (by kernel_rfl) (by simp only [List.getElem?_toArray, List.getElem?_cons_succ, List.getElem?_cons_zero]; rfl) (by kernel_rfl) (fun kC hkC => ?_)
          go_simp
          refine hkC.out _ _ (⟨hyS, mS⟩) (fun hM => ?_)
          clear hkC kC
          try simp only [Act.put, List.setIfInBounds_toArray, List.set_cons_zero, List.set_cons_succ]
          refine wpAnyK_last (i := 9) (by kernel_rfl) (by simp only [List.getElem?_toArray, List.getElem?_cons_succ, List.getElem?_cons_zero]; rfl) (by kernel_rfl) (by kernel_rfl) (fun kC hkC => ?_)
          go_simp
          refine hkC.out _ _ ?_
          clear hkC kC
          try simp only [Act.put, List.setIfInBounds_toArray, List.set_cons_zero, List.set_cons_succ]
          refine wpAnyK_done (by kernel_rfl) ?_ _
          have hP := HS.out
          unfold setB at hP
          (try dsimp only at hP)
          generalize (((((((((w7.setCell ⟨G, 0, none⟩ (.int .i64 t')).setCell ⟨G, 1, none⟩ (.int .i64 l')).setCell ⟨G, 2, none⟩ (.int .i64 s')).setCell ⟨G, 3, none⟩ (.bool r')).setCell ⟨G, 4, none⟩ (.int .i64 x')).setCell ⟨G + 2, 0, none⟩ (.int .i64 t')).setCell ⟨G + 2, 1, none⟩ (.int .i64 l')).setCell ⟨G + 2, 2, none⟩ (.int .i64 s')).setCell ⟨G + 2, 3, none⟩ (.bool r')).setCell ⟨G + 2, 4, none⟩ (.int .i64 x') = wz at *
          have HX' := Lib.hid hP
          obtain ⟨x0', x1', x2', x3', x4'⟩ := handC hP.A
          obtain ⟨z0', z1', z2', z3', z4'⟩ := handC hP.C
          clear hP HS HD HD2 HIt HId HJt HJd hTd hAd hBd hCd hT5 hT7 m5 m7 hA5 hB5 hC5 hA7 hB7 hC7 hX5 hZ5 hX7 hZ7 F0 F1 F2 F3 F4 F5 G0 G1 G2 G3 G4 G5 hyS mS hM hK
          clear x0 x1 x2 x3 x4 y0 y1 y2 y3 y4 z0 z1 z2 z3 z4 m0 m1 m2 m3 m4 hq hq2 cn
          clear HX HI
          go_wp2_with fail
          go_roundw
          case rel => exact ⟨n + 1, M', N', _, _, by omega, by go_num, HX'.out, HAP.out⟩
          case measure => simp [intOf]; omega
        · by_cases h9 : xs = 9
          · subst h9
            go_wp2_with fail
            obtain ⟨M', h', hd⟩ : ∃ M' h', tkDrop ⟨2, 2, 4, 0, 2⟩ M ⟨1, 0, 9, false, xx⟩ = (M', h') := ⟨_, _, rfl⟩
            obtain ⟨N', h2, hd2⟩ : ∃ N' h2, tkDrop ⟨2, 2, 4, 0, 2⟩ N ⟨1, 0, 9, false, xx⟩ = (N', h2) := ⟨_, _, rfl⟩
            obtain ⟨rfl, hap⟩ := HId.out _ _ _ _ _ hd hd2
            obtain ⟨t', l', s', r', x'⟩ := h2
            have HD := Lib.hid hd; have HD2 := Lib.hid hd2; have HAP := Lib.hid hap
            clear hd hd2 hap
            have hTd := HX.out.t.keep ((Keeps.refl NoS _).drew)
            have hAd := HX.out.A.keep ((Keeps.refl NoS _).drew) (fun f => f)
            have hBd := HX.out.B.keep ((Keeps.refl NoS _).drew) (fun f => f)
            have hCd := HX.out.C.keep ((Keeps.refl NoS _).drew) (fun f => f)
            refine wp_region_kept_drew 8 (fun w' => (w'.cell? ⟨G, 0, none⟩ = some (.int .i64 1) ∧ w'.cell? ⟨G, 1, none⟩ = some (.int .i64 0) ∧ w'.cell? ⟨G, 2, none⟩ = some (.int .i64 9) ∧ w'.cell? ⟨G, 3, none⟩ = some (.bool false) ∧ w'.cell? ⟨G, 4, none⟩ = some (.int .i64 xx)) ∧ (w'.cell? ⟨(G + 2), 0, none⟩ = some (.int .i64 1) ∧ w'.cell? ⟨(G + 2), 1, none⟩ = some (.int .i64 0) ∧ w'.cell? ⟨(G + 2), 2, none⟩ = some (.int .i64 9) ∧ w'.cell? ⟨(G + 2), 3, none⟩ = some (.bool false) ∧ w'.cell? ⟨(G + 2), 4, none⟩ = some (.int .i64 xx)) ∧ (w'.cell? ⟨B, 0, none⟩ = some (.int .i64 2) ∧ w'.cell? ⟨B, 1, none⟩ = some (.int .i64 2) ∧ w'.cell? ⟨B, 2, none⟩ = some (.int .i64 4) ∧ w'.cell? ⟨B, 3, none⟩ = some (.int .i64 0) ∧ w'.cell? ⟨B, 4, none⟩ = some (.int .i64 2))) 9 (fun w' => (w'.cell? ⟨(G + 2), 0, none⟩ = some (.int .i64 1) ∧ w'.cell? ⟨(G + 2), 1, none⟩ = some (.int .i64 0) ∧ w'.cell? ⟨(G + 2), 2, none⟩ = some (.int .i64 9) ∧ w'.cell? ⟨(G + 2), 3, none⟩ = some (.bool false) ∧ w'.cell? ⟨(G + 2), 4, none⟩ = some (.int .i64 xx)) ∧ (w'.cell? ⟨B, 0, none⟩ = some (.int .i64 2) ∧ w'.cell? ⟨B, 1, none⟩ = some (.int .i64 2) ∧ w'.cell? ⟨B, 2, none⟩ = some (.int .i64 4) ∧ w'.cell? ⟨B, 3, none⟩ = some (.int .i64 0) ∧ w'.cell? ⟨B, 4, none⟩ = some (.int .i64 2))) (by kernel_rfl) (⟨⟨x0, x1, x2, x3, x4⟩, ⟨z0, z1, z2, z3, z4⟩, ⟨m0, m1, m2, m3, m4⟩⟩) (⟨⟨z0, z1, z2, z3, z4⟩, ⟨m0, m1, m2, m3, m4⟩⟩) (fun hK => ?_)
            refine wpAnyK_take1 (i := 0) (v := ?_) (by simp only [List.getElem?_toArray, List.getElem?_cons_succ, List.getElem?_cons_zero]; rfl) (by kernel_rfl) (by kernel_rfl) (by kernel_rfl) (by kernel_rfl) (by kernel_rfl) (by kernel_rfl) (by exact fun _ _ _ h => h) (Or.inl ⟨by rfl, ?_⟩) (hK _) ?_
            rotate_left
            · intro w hSw; (try dsimp only at hSw); go_simp; (try with_reducible rfl)
            try simp only [Act.put, List.setIfInBounds_toArray, List.set_cons_zero, List.set_cons_succ]
            refine wpAnyK_take1 (i := 1) (v := ?_) (by simp only [List.getElem?_toArray, List.getElem?_cons_succ, List.getElem?_cons_zero]; rfl) (by kernel_rfl) (by kernel_rfl) (by kernel_rfl) (by kernel_rfl) (by kernel_rfl) (by kernel_rfl) (by exact fun _ _ _ h => h) (Or.inl ⟨by rfl, ?_⟩) (hK _) ?_
            rotate_left
            · intro w hSw; (try dsimp only at hSw); go_simp; (try with_reducible rfl)
            try simp only [Act.put, List.setIfInBounds_toArray, List.set_cons_zero, List.set_cons_succ]
            refine wpAnyK_take1 (i := 2) (v := ?_) (by simp only [List.getElem?_toArray, List.getElem?_cons_succ, List.getElem?_cons_zero]; rfl) (by kernel_rfl) (by kernel_rfl) (by kernel_rfl) (by kernel_rfl) (by kernel_rfl) (by kernel_rfl) (by exact fun _ _ _ h => h) (Or.inl ⟨by rfl, ?_⟩) (hK _) ?_
            rotate_left
            · intro w hSw; (try dsimp only at hSw); go_simp; (try with_reducible rfl)
            try simp only [Act.put, List.setIfInBounds_toArray, List.set_cons_zero, List.set_cons_succ]
            refine wpAnyK_take2 (i := 4) (v := ?_) (by simp only [List.getElem?_toArray, List.getElem?_cons_succ, List.getElem?_cons_zero]; rfl) (by kernel_rfl) (by kernel_rfl) (by kernel_rfl) (by kernel_rfl) (by kernel_rfl) (by kernel_rfl) (by exact fun _ _ _ h => h) (Or.inl ⟨by rfl, ?_⟩) (hK _) ?_
            rotate_left
            · intro w hSw; (try dsimp only at hSw); go_simp; (try with_reducible rfl)
            try simp only [Act.put, List.setIfInBounds_toArray, List.set_cons_zero, List.set_cons_succ]
            refine wpAnyK_take2 (i := 5) (v := ?_) (by simp only [List.getElem?_toArray, List.getElem?_cons_succ, List.getElem?_cons_zero]; rfl) (by kernel_rfl) (by kernel_rfl) (by kernel_rfl) (by kernel_rfl) (by kernel_rfl) (by kernel_rfl) (by exact fun _ _ _ h => h) (Or.inl ⟨by rfl, ?_⟩) (hK _) ?_
            rotate_left
            · intro w hSw; (try dsimp only at hSw); go_simp; (try with_reducible rfl)
            try simp only [Act.put, List.setIfInBounds_toArray, List.set_cons_zero, List.set_cons_succ]
            refine wpAnyK_take2 (i := 6) (v := ?_) (by simp only [List.getElem?_toArray, List.getElem?_cons_succ, List.getElem?_cons_zero]; rfl) (by kernel_rfl) (by kernel_rfl) (by kernel_rfl) (by kernel_rfl) (by kernel_rfl) (by kernel_rfl) (by exact fun _ _ _ h => h) (Or.inl ⟨by rfl, ?_⟩) (hK _) ?_
            rotate_left
            · intro w hSw; (try dsimp only at hSw); go_simp; (try with_reducible rfl)
            try simp only [Act.put, List.setIfInBounds_toArray, List.set_cons_zero, List.set_cons_succ]
            refine wpAnyK_one (i := 3) (by kernel_rfl) (by simp only [List.getElem?_toArray, List.getElem?_cons_succ, List.getElem?_cons_zero]; rfl) (fun kC hkC => ?_)
            go_simp
            refine (drop_any 2 2 4 0 2 1 0 9 false xx a v M _ hTd.s.m).mono ?_; rw [HD.out]; unfold handV; dsimp only; rintro e w5 ⟨rfl, hm, hk⟩; have hT5 := hTd.turnS hm hk; have m5 := HBm.out _ hT5.s.kp; have hA5 := hAd.keep hk (HA.out.na (Nat.le_refl _)); have hB5 := hBd.keep hk (HA.out.na (by omega)); have hC5 := hCd.keep hk (HA.out.na (by omega)); have hX5 := handC hA5; have hZ5 := handC hC5; (try dsimp only at hX5 hZ5); clear hm hk
            (try go_wp2_with fail)
            refine hkC.out _ _ (⟨hX5, hZ5, m5⟩) (⟨hZ5, m5⟩) (fun hK => ?_)
            clear hkC kC
            try simp only [Act.put, List.setIfInBounds_toArray, List.set_cons_zero, List.set_cons_succ]
            refine wpAnyK_one (i := 7) (by kernel_rfl) (by simp only [List.getElem?_toArray, List.getElem?_cons_succ, List.getElem?_cons_zero]; rfl) (fun kC hkC => ?_)
            go_simp
            refine (drop_any 2 2 4 0 2 1 0 9 false xx c u N _ hT5.r.m).mono ?_; rw [HD2.out]; unfold handV; dsimp only; rintro e w7 ⟨rfl, hm, hk⟩; have hT7 := hT5.turnR hm hk; have m7 := HBm.out _ hT7.s.kp; have hA7 := hA5.keep hk (HA.out.nc (Nat.le_refl _)); have hB7 := hB5.keep hk (HA.out.nc (by omega)); have hC7 := hC5.keep hk (HA.out.nc (by omega)); have hX7 := handC hA7; have hZ7 := handC hC7; (try dsimp only at hX7 hZ7); obtain ⟨F0, F1, F2, F3, F4, F5⟩ := handF hA7; obtain ⟨G0, G1, G2, G3, G4, G5⟩ := handF hC7; have hS7 : ApS W (setB (setB w7 G ⟨t', l', s', r', x'⟩) (G + 2) ⟨t', l', s', r', x'⟩) a c v u M' N' G ⟨t', l', s', r', x'⟩ ⟨2, 1, ys, false, yx⟩ := ⟨(hT7.setB HA.out (Nat.le_refl _) _).setB HA.out (by omega) _, (HandAt.setB (x := ⟨1, 0, 9, false, xx⟩) hA7 _).outB (by omega) _, (HandAt.outB (x := ⟨2, 1, ys, false, yx⟩) hB7 (by omega) _).outB (by omega) _, HandAt.setB (x := ⟨1, 0, 9, false, xx⟩) (HandAt.outB (x := ⟨1, 0, 9, false, xx⟩) hC7 (by omega) _) _⟩; have HS := Lib.hid hS7; have hyS := handC (HandAt.outB (g := G) (x := ⟨1, 0, 9, false, xx⟩) hC7 (by omega) ⟨t', l', s', r', x'⟩); have mS := HBm.out _ (hT7.setB HA.out (Nat.le_refl _) ⟨t', l', s', r', x'⟩).s.kp; unfold setB at hyS mS; (try dsimp only at hyS mS); clear hm hk hS7
            (try go_wp2_with fail)
            refine hkC.out _ _ (⟨hX7, hZ7, m7⟩) (⟨hZ7, m7⟩) (fun hK => ?_)
            clear hkC kC
            try simp only [Act.put, List.setIfInBounds_toArray, List.set_cons_zero, List.set_cons_succ]
            refine wpAnyK_mid (i := 8) (by kernel_rfl) (by simp only [List.getElem?_toArray, List.getElem?_cons_succ, List.getElem?_cons_zero]; rfl) (by kernel_rfl) (fun kC hkC => ?_)
            go_simp
            refine hkC.out _ _ (⟨hyS, mS⟩) (fun hM => ?_)
            clear hkC kC
            try simp only [Act.put, List.setIfInBounds_toArray, List.set_cons_zero, List.set_cons_succ]
            refine wpAnyK_last (i := 9) (by kernel_rfl) (by simp only [List.getElem?_toArray, List.getElem?_cons_succ, List.getElem?_cons_zero]; rfl) (by kernel_rfl) (by kernel_rfl) (fun kC hkC => ?_)
            go_simp
            refine hkC.out _ _ ?_
            clear hkC kC
            try simp only [Act.put, List.setIfInBounds_toArray, List.set_cons_zero, List.set_cons_succ]
            refine wpAnyK_done (by kernel_rfl) ?_ _
            have hP := HS.out
            unfold setB at hP
            (try dsimp only at hP)
            generalize (((((((((w7.setCell ⟨G, 0, none⟩ (.int .i64 t')).setCell ⟨G, 1, none⟩ (.int .i64 l')).setCell ⟨G, 2, none⟩ (.int .i64 s')).setCell ⟨G, 3, none⟩ (.bool r')).setCell ⟨G, 4, none⟩ (.int .i64 x')).setCell ⟨G + 2, 0, none⟩ (.int .i64 t')).setCell ⟨G + 2, 1, none⟩ (.int .i64 l')).setCell ⟨G + 2, 2, none⟩ (.int .i64 s')).setCell ⟨G + 2, 3, none⟩ (.bool r')).setCell ⟨G + 2, 4, none⟩ (.int .i64 x') = wz at *
            have HX' := Lib.hid hP
            obtain ⟨x0', x1', x2', x3', x4'⟩ := handC hP.A
            obtain ⟨z0', z1', z2', z3', z4'⟩ := handC hP.C
            clear hP HS HD HD2 HIt HId HJt HJd hTd hAd hBd hCd hT5 hT7 m5 m7 hA5 hB5 hC5 hA7 hB7 hC7 hX5 hZ5 hX7 hZ7 F0 F1 F2 F3 F4 F5 G0 G1 G2 G3 G4 G5 hyS mS hM hK
            clear x0 x1 x2 x3 x4 y0 y1 y2 y3 y4 z0 z1 z2 z3 z4 m0 m1 m2 m3 m4 hq hq2 cn
            clear HX HI
            go_wp2_with fail
            go_roundw
            case rel => exact ⟨n + 1, M', N', _, _, by omega, by go_num, HX'.out, HAP.out⟩
            case measure => simp [intOf]; omega
          · go_wp2_with fail
            obtain ⟨M', h', hd⟩ : ∃ M' h', tkTake ⟨2, 2, 4, 0, 2⟩ M ⟨1, 0, xs, false, xx⟩ = (M', h') := ⟨_, _, rfl⟩
            obtain ⟨N', h2, hd2⟩ : ∃ N' h2, tkTake ⟨2, 2, 4, 0, 2⟩ N ⟨1, 0, xs, false, xx⟩ = (N', h2) := ⟨_, _, rfl⟩
            obtain ⟨rfl, hap⟩ := HIt.out _ _ _ _ hd hd2
            obtain ⟨t', l', s', r', x'⟩ := h2
            have HD := Lib.hid hd; have HD2 := Lib.hid hd2; have HAP := Lib.hid hap
            clear hd hd2 hap
            have hTd := HX.out.t.keep ((Keeps.refl NoS _).drew)
            have hAd := HX.out.A.keep ((Keeps.refl NoS _).drew) (fun f => f)
            have hBd := HX.out.B.keep ((Keeps.refl NoS _).drew) (fun f => f)
            have hCd := HX.out.C.keep ((Keeps.refl NoS _).drew) (fun f => f)
            refine wp_region_kept_drew 8 (fun w' => (w'.cell? ⟨G, 0, none⟩ = some (.int .i64 1) ∧ w'.cell? ⟨G, 1, none⟩ = some (.int .i64 0) ∧ w'.cell? ⟨G, 2, none⟩ = some (.int .i64 xs) ∧ w'.cell? ⟨G, 3, none⟩ = some (.bool false) ∧ w'.cell? ⟨G, 4, none⟩ = some (.int .i64 xx)) ∧ (w'.cell? ⟨(G + 2), 0, none⟩ = some (.int .i64 1) ∧ w'.cell? ⟨(G + 2), 1, none⟩ = some (.int .i64 0) ∧ w'.cell? ⟨(G + 2), 2, none⟩ = some (.int .i64 xs) ∧ w'.cell? ⟨(G + 2), 3, none⟩ = some (.bool false) ∧ w'.cell? ⟨(G + 2), 4, none⟩ = some (.int .i64 xx)) ∧ (w'.cell? ⟨B, 0, none⟩ = some (.int .i64 2) ∧ w'.cell? ⟨B, 1, none⟩ = some (.int .i64 2) ∧ w'.cell? ⟨B, 2, none⟩ = some (.int .i64 4) ∧ w'.cell? ⟨B, 3, none⟩ = some (.int .i64 0) ∧ w'.cell? ⟨B, 4, none⟩ = some (.int .i64 2))) 9 (fun w' => (w'.cell? ⟨(G + 2), 0, none⟩ = some (.int .i64 1) ∧ w'.cell? ⟨(G + 2), 1, none⟩ = some (.int .i64 0) ∧ w'.cell? ⟨(G + 2), 2, none⟩ = some (.int .i64 xs) ∧ w'.cell? ⟨(G + 2), 3, none⟩ = some (.bool false) ∧ w'.cell? ⟨(G + 2), 4, none⟩ = some (.int .i64 xx)) ∧ (w'.cell? ⟨B, 0, none⟩ = some (.int .i64 2) ∧ w'.cell? ⟨B, 1, none⟩ = some (.int .i64 2) ∧ w'.cell? ⟨B, 2, none⟩ = some (.int .i64 4) ∧ w'.cell? ⟨B, 3, none⟩ = some (.int .i64 0) ∧ w'.cell? ⟨B, 4, none⟩ = some (.int .i64 2))) (by kernel_rfl) (⟨⟨x0, x1, x2, x3, x4⟩, ⟨z0, z1, z2, z3, z4⟩, ⟨m0, m1, m2, m3, m4⟩⟩) (⟨⟨z0, z1, z2, z3, z4⟩, ⟨m0, m1, m2, m3, m4⟩⟩) (fun hK => ?_)
            refine wpAnyK_take1 (i := 0) (v := ?_) (by simp only [List.getElem?_toArray, List.getElem?_cons_succ, List.getElem?_cons_zero]; rfl) (by kernel_rfl) (by kernel_rfl) (by kernel_rfl) (by kernel_rfl) (by kernel_rfl) (by kernel_rfl) (by exact fun _ _ _ h => h) (Or.inl ⟨by rfl, ?_⟩) (hK _) ?_
            rotate_left
            · intro w hSw; (try dsimp only at hSw); go_simp; (try with_reducible rfl)
            try simp only [Act.put, List.setIfInBounds_toArray, List.set_cons_zero, List.set_cons_succ]
            refine wpAnyK_take1 (i := 1) (v := ?_) (by simp only [List.getElem?_toArray, List.getElem?_cons_succ, List.getElem?_cons_zero]; rfl) (by kernel_rfl) (by kernel_rfl) (by kernel_rfl) (by kernel_rfl) (by kernel_rfl) (by kernel_rfl) (by exact fun _ _ _ h => h) (Or.inl ⟨by rfl, ?_⟩) (hK _) ?_
            rotate_left
            · intro w hSw; (try dsimp only at hSw); go_simp; (try with_reducible rfl)
            try simp only [Act.put, List.setIfInBounds_toArray, List.set_cons_zero, List.set_cons_succ]
            refine wpAnyK_take1 (i := 2) (v := ?_) (by simp only [List.getElem?_toArray, List.getElem?_cons_succ, List.getElem?_cons_zero]; rfl) (by kernel_rfl) (by kernel_rfl) (by kernel_rfl) (by kernel_rfl) (by kernel_rfl) (by kernel_rfl) (by exact fun _ _ _ h => h) (Or.inl ⟨by rfl, ?_⟩) (hK _) ?_
            rotate_left
            · intro w hSw; (try dsimp only at hSw); go_simp; (try with_reducible rfl)
            try simp only [Act.put, List.setIfInBounds_toArray, List.set_cons_zero, List.set_cons_succ]
            refine wpAnyK_take2 (i := 4) (v := ?_) (by simp only [List.getElem?_toArray, List.getElem?_cons_succ, List.getElem?_cons_zero]; rfl) (by kernel_rfl) (by kernel_rfl) (by kernel_rfl) (by kernel_rfl) (by kernel_rfl) (by kernel_rfl) (by exact fun _ _ _ h => h) (Or.inl ⟨by rfl, ?_⟩) (hK _) ?_
            rotate_left
            · intro w hSw; (try dsimp only at hSw); go_simp; (try with_reducible rfl)
            try simp only [Act.put, List.setIfInBounds_toArray, List.set_cons_zero, List.set_cons_succ]
            refine wpAnyK_take2 (i := 5) (v := ?_) (by simp only [List.getElem?_toArray, List.getElem?_cons_succ, List.getElem?_cons_zero]; rfl) (by kernel_rfl) (by kernel_rfl) (by kernel_rfl) (by kernel_rfl) (by kernel_rfl) (by kernel_rfl) (by exact fun _ _ _ h => h) (Or.inl ⟨by rfl, ?_⟩) (hK _) ?_
            rotate_left
            · intro w hSw; (try dsimp only at hSw); go_simp; (try with_reducible rfl)
            try simp only [Act.put, List.setIfInBounds_toArray, List.set_cons_zero, List.set_cons_succ]
            refine wpAnyK_take2 (i := 6) (v := ?_) (by simp only [List.getElem?_toArray, List.getElem?_cons_succ, List.getElem?_cons_zero]; rfl) (by kernel_rfl) (by kernel_rfl) (by kernel_rfl) (by kernel_rfl) (by kernel_rfl) (by kernel_rfl) (by exact fun _ _ _ h => h) (Or.inl ⟨by rfl, ?_⟩) (hK _) ?_
            rotate_left
            · intro w hSw; (try dsimp only at hSw); go_simp; (try with_reducible rfl)
            try simp only [Act.put, List.setIfInBounds_toArray, List.set_cons_zero, List.set_cons_succ]
            refine wpAnyK_one (i := 3) (by kernel_rfl) (by simp only [List.getElem?_toArray, List.getElem?_cons_succ, List.getElem?_cons_zero]; rfl) (fun kC hkC => ?_)
            go_simp
            refine (take_any 2 2 4 0 2 1 0 xs false xx a v M _ hTd.s.m).mono ?_; rw [HD.out]; unfold handV; dsimp only; rintro e w5 ⟨rfl, hm, hk⟩; have hT5 := hTd.turnS hm hk; have m5 := HBm.out _ hT5.s.kp; have hA5 := hAd.keep hk (HA.out.na (Nat.le_refl _)); have hB5 := hBd.keep hk (HA.out.na (by omega)); have hC5 := hCd.keep hk (HA.out.na (by omega)); have hX5 := handC hA5; have hZ5 := handC hC5; (try dsimp only at hX5 hZ5); clear hm hk
            (try go_wp2_with fail)
            refine hkC.out _ _ (⟨hX5, hZ5, m5⟩) (⟨hZ5, m5⟩) (fun hK => ?_)
            clear hkC kC
            try simp only [Act.put, List.setIfInBounds_toArray, List.set_cons_zero, List.set_cons_succ]
            refine wpAnyK_one (i := 7) (by kernel_rfl) (by simp only [List.getElem?_toArray, List.getElem?_cons_succ, List.getElem?_cons_zero]; rfl) (fun kC hkC => ?_)
            go_simp
            refine (take_any 2 2 4 0 2 1 0 xs false xx c u N _ hT5.r.m).mono ?_; rw [HD2.out]; unfold handV; dsimp only; rintro e w7 ⟨rfl, hm, hk⟩; have hT7 := hT5.turnR hm hk; have m7 := HBm.out _ hT7.s.kp; have hA7 := hA5.keep hk (HA.out.nc (Nat.le_refl _)); have hB7 := hB5.keep hk (HA.out.nc (by omega)); have hC7 := hC5.keep hk (HA.out.nc (by omega)); have hX7 := handC hA7; have hZ7 := handC hC7; (try dsimp only at hX7 hZ7); obtain ⟨F0, F1, F2, F3, F4, F5⟩ := handF hA7; obtain ⟨G0, G1, G2, G3, G4, G5⟩ := handF hC7; have hS7 : ApS W (setB (setB w7 G ⟨t', l', s', r', x'⟩) (G + 2) ⟨t', l', s', r', x'⟩) a c v u M' N' G ⟨t', l', s', r', x'⟩ ⟨2, 1, ys, false, yx⟩ := ⟨(hT7.setB HA.out (Nat.le_refl _) _).setB HA.out (by omega) _, (HandAt.setB (x := ⟨1, 0, xs, false, xx⟩) hA7 _).outB (by omega) _, (HandAt.outB (x := ⟨2, 1, ys, false, yx⟩) hB7 (by omega) _).outB (by omega) _, HandAt.setB (x := ⟨1, 0, xs, false, xx⟩) (HandAt.outB (x := ⟨1, 0, xs, false, xx⟩) hC7 (by omega) _) _⟩; have HS := Lib.hid hS7; have hyS := handC (HandAt.outB (g := G) (x := ⟨1, 0, xs, false, xx⟩) hC7 (by omega) ⟨t', l', s', r', x'⟩); have mS := HBm.out _ (hT7.setB HA.out (Nat.le_refl _) ⟨t', l', s', r', x'⟩).s.kp; unfold setB at hyS mS; (try dsimp only at hyS mS); clear hm hk hS7
            (try go_wp2_with fail)
            refine hkC.out _ _ (⟨hX7, hZ7, m7⟩) (⟨hZ7, m7⟩) (fun hK => ?_)
            clear hkC kC
            try simp only [Act.put, List.setIfInBounds_toArray, List.set_cons_zero, List.set_cons_succ]
            refine wpAnyK_mid (i := 8) (by kernel_rfl) (by simp only [List.getElem?_toArray, List.getElem?_cons_succ, List.getElem?_cons_zero]; rfl) (by kernel_rfl) (fun kC hkC => ?_)
            go_simp
            refine hkC.out _ _ (⟨hyS, mS⟩) (fun hM => ?_)
            clear hkC kC
            try simp only [Act.put, List.setIfInBounds_toArray, List.set_cons_zero, List.set_cons_succ]
            refine wpAnyK_last (i := 9) (by kernel_rfl) (by simp only [List.getElem?_toArray, List.getElem?_cons_succ, List.getElem?_cons_zero]; rfl) (by kernel_rfl) (by kernel_rfl) (fun kC hkC => ?_)
            go_simp
            refine hkC.out _ _ ?_
            clear hkC kC
            try simp only [Act.put, List.setIfInBounds_toArray, List.set_cons_zero, List.set_cons_succ]
            refine wpAnyK_done (by kernel_rfl) ?_ _
            have hP := HS.out
            unfold setB at hP
            (try dsimp only at hP)
            generalize (((((((((w7.setCell ⟨G, 0, none⟩ (.int .i64 t')).setCell ⟨G, 1, none⟩ (.int .i64 l')).setCell ⟨G, 2, none⟩ (.int .i64 s')).setCell ⟨G, 3, none⟩ (.bool r')).setCell ⟨G, 4, none⟩ (.int .i64 x')).setCell ⟨G + 2, 0, none⟩ (.int .i64 t')).setCell ⟨G + 2, 1, none⟩ (.int .i64 l')).setCell ⟨G + 2, 2, none⟩ (.int .i64 s')).setCell ⟨G + 2, 3, none⟩ (.bool r')).setCell ⟨G + 2, 4, none⟩ (.int .i64 x') = wz at *
            have HX' := Lib.hid hP
            obtain ⟨x0', x1', x2', x3', x4'⟩ := handC hP.A
            obtain ⟨z0', z1', z2', z3', z4'⟩ := handC hP.C
            clear hP HS HD HD2 HIt HId HJt HJd hTd hAd hBd hCd hT5 hT7 m5 m7 hA5 hB5 hC5 hA7 hB7 hC7 hX5 hZ5 hX7 hZ7 F0 F1 F2 F3 F4 F5 G0 G1 G2 G3 G4 G5 hyS mS hM hK
            clear x0 x1 x2 x3 x4 y0 y1 y2 y3 y4 z0 z1 z2 z3 z4 m0 m1 m2 m3 m4 hq hq2 cn
            clear HX HI
            go_wp2_with fail
            go_roundw
            case rel => exact ⟨n + 1, M', N', _, _, by omega, by go_num, HX'.out, HAP.out⟩
            case measure => simp [intOf]; omega
      · cases q
        · obtain ⟨M', h', hd⟩ : ∃ M' h', tkTake ⟨2, 2, 4, 0, 2⟩ M ⟨2, 1, ys, false, yx⟩ = (M', h') := ⟨_, _, rfl⟩
          have hap := HJt.out _ _ hd
          obtain ⟨t', l', s', r', x'⟩ := h'
          have HD := Lib.hid hd; have HAP := Lib.hid hap
          clear hd hap
          go_wp2_with (go_at_call 18; refine (take_any 2 2 4 0 2 2 1 ys false yx a v M _ HX.out.t.s.m).mono ?_; rw [HD.out]; unfold handV; dsimp only; rintro e w5 ⟨rfl, hm, hk⟩; have hT5 := HX.out.t.turnS hm hk; have hA5 := HX.out.A.keep hk (HA.out.na (Nat.le_refl _)); have hB5 := HX.out.B.keep hk (HA.out.na (by omega)); have hC5 := HX.out.C.keep hk (HA.out.na (by omega)); obtain ⟨F0, F1, F2, F3, F4, F5⟩ := handF hB5; obtain ⟨y0', y1', y2', y3', y4'⟩ := handC hB5; have hS5 : ApS W (setB w5 (G + 1) ⟨t', l', s', r', x'⟩) a c v u M' N G ⟨1, 0, xs, false, xx⟩ ⟨t', l', s', r', x'⟩ := ⟨hT5.setB HA.out (by omega) _, HandAt.outB (x := ⟨1, 0, xs, false, xx⟩) hA5 (by omega) _, HandAt.setB (x := ⟨2, 1, ys, false, yx⟩) hB5 _, HandAt.outB (x := ⟨1, 0, xs, false, xx⟩) hC5 (by omega) _⟩; have HS := Lib.hid hS5; clear hm hk hS5)
          go_roundw
          case rel => exact ⟨n + 1, M', N, _, _, by omega, by go_num, HS.out, HAP.out⟩
          case measure => simp [intOf]; omega
        · by_cases h9 : ys = 9
          · subst h9
            obtain ⟨M', h', hd⟩ : ∃ M' h', tkDrop ⟨2, 2, 4, 0, 2⟩ M ⟨2, 1, 9, false, yx⟩ = (M', h') := ⟨_, _, rfl⟩
            have hap := HJd.out _ _ _ hd
            obtain ⟨t', l', s', r', x'⟩ := h'
            have HD := Lib.hid hd; have HAP := Lib.hid hap
            clear hd hap
            go_wp2_with (go_at_call 17; refine (drop_any 2 2 4 0 2 2 1 9 false yx a v M _ HX.out.t.s.m).mono ?_; rw [HD.out]; unfold handV; dsimp only; rintro e w5 ⟨rfl, hm, hk⟩; have hT5 := HX.out.t.turnS hm hk; have hA5 := HX.out.A.keep hk (HA.out.na (Nat.le_refl _)); have hB5 := HX.out.B.keep hk (HA.out.na (by omega)); have hC5 := HX.out.C.keep hk (HA.out.na (by omega)); obtain ⟨F0, F1, F2, F3, F4, F5⟩ := handF hB5; obtain ⟨y0', y1', y2', y3', y4'⟩ := handC hB5; have hS5 : ApS W (setB w5 (G + 1) ⟨t', l', s', r', x'⟩) a c v u M' N G ⟨1, 0, xs, false, xx⟩ ⟨t', l', s', r', x'⟩ := ⟨hT5.setB HA.out (by omega) _, HandAt.outB (x := ⟨1, 0, xs, false, xx⟩) hA5 (by omega) _, HandAt.setB (x := ⟨2, 1, 9, false, yx⟩) hB5 _, HandAt.outB (x := ⟨1, 0, xs, false, xx⟩) hC5 (by omega) _⟩; have HS := Lib.hid hS5; clear hm hk hS5)
            go_roundw
            case rel => exact ⟨n + 1, M', N, _, _, by omega, by go_num, HS.out, HAP.out⟩
            case measure => simp [intOf]; omega
          · obtain ⟨M', h', hd⟩ : ∃ M' h', tkTake ⟨2, 2, 4, 0, 2⟩ M ⟨2, 1, ys, false, yx⟩ = (M', h') := ⟨_, _, rfl⟩
            have hap := HJt.out _ _ hd
            obtain ⟨t', l', s', r', x'⟩ := h'
            have HD := Lib.hid hd; have HAP := Lib.hid hap
            clear hd hap
            go_wp2_with (go_at_call 18; refine (take_any 2 2 4 0 2 2 1 ys false yx a v M _ HX.out.t.s.m).mono ?_; rw [HD.out]; unfold handV; dsimp only; rintro e w5 ⟨rfl, hm, hk⟩; have hT5 := HX.out.t.turnS hm hk; have hA5 := HX.out.A.keep hk (HA.out.na (Nat.le_refl _)); have hB5 := HX.out.B.keep hk (HA.out.na (by omega)); have hC5 := HX.out.C.keep hk (HA.out.na (by omega)); obtain ⟨F0, F1, F2, F3, F4, F5⟩ := handF hB5; obtain ⟨y0', y1', y2', y3', y4'⟩ := handC hB5; have hS5 : ApS W (setB w5 (G + 1) ⟨t', l', s', r', x'⟩) a c v u M' N G ⟨1, 0, xs, false, xx⟩ ⟨t', l', s', r', x'⟩ := ⟨hT5.setB HA.out (by omega) _, HandAt.outB (x := ⟨1, 0, xs, false, xx⟩) hA5 (by omega) _, HandAt.setB (x := ⟨2, 1, ys, false, yx⟩) hB5 _, HandAt.outB (x := ⟨1, 0, xs, false, xx⟩) hC5 (by omega) _⟩; have HS := Lib.hid hS5; clear hm hk hS5)
            go_roundw
            case rel => exact ⟨n + 1, M', N, _, _, by omega, by go_num, HS.out, HAP.out⟩
            case measure => simp [intOf]; omega
    · obtain rfl : n = L.length := by omega
      have HX := Lib.hid hr
      obtain ⟨m0, m1, m2, m3, m4⟩ := HBm.out _ (hr.t.s.kp.drew)
      have at5 : ∀ K : MemS, K.L.length = 48 → K.atP 5 = K.word 5 := by
        intro K hK
        show K.atP ((5 : Nat) : Int) = _
        unfold MemS.atP
        rw [inR_nat (n := 5) (by omega)]
        rfl
      have h5 : N.atP 5 = M.word 5 := (at5 N HI.out.lN).trans HI.out.n5.symm
      have h5' : M.atP 5 = M.word 5 := at5 M HI.out.lM
      have H5 := Lib.hid h5; have H5' := Lib.hid h5'
      clear h5 h5' at5 hr hxe hye
      go_wp2_with fail
      refine wp_region_held_drew (S := (fun w' => (w'.cell? ⟨B, 0, none⟩ = some (.int .i64 2) ∧ w'.cell? ⟨B, 1, none⟩ = some (.int .i64 2) ∧ w'.cell? ⟨B, 2, none⟩ = some (.int .i64 4) ∧ w'.cell? ⟨B, 3, none⟩ = some (.int .i64 0) ∧ w'.cell? ⟨B, 4, none⟩ = some (.int .i64 2)))) (by kernel_rfl) (⟨m0, m1, m2, m3, m4⟩) (fun hHeld => ?_)
      refine wpAnyH_ready (rs := [0]) (by kernel_rfl) (by simp) ?_
      refine AllReadyH.cons (by simp only [List.getElem?_toArray, List.getElem?_cons_succ, List.getElem?_cons_zero]; rfl) (fun kC hkC => ?_) AllReadyH.nil
      go_simp
      refine (told8_any _).mono ?_; rintro e w5 ⟨rfl, hk5⟩; have hT5 := (HX.out.t.keep ((Keeps.refl NoS _).drew)).keep hk5; have m5 := HBm.out _ hT5.s.kp
      (try go_wp2_with fail)
      refine hkC.out _ _ (m5) (fun hHeld => ?_)
      clear hkC kC
      try simp only [Act.put, List.setIfInBounds_toArray, List.set_cons_zero, List.set_cons_succ]
      refine wpAnyH_take (i := 1) (v := ?_) (by simp only [List.getElem?_toArray, List.getElem?_cons_succ, List.getElem?_cons_zero]; rfl) (by kernel_rfl) (by kernel_rfl) (by kernel_rfl) (by exact fun _ _ _ h => h) (Or.inl ⟨by rfl, ?_⟩) hHeld ?_
      rotate_left
      · intro w hSw; (try dsimp only at hSw); go_simp; (try with_reducible rfl)
      try simp only [Act.put, List.setIfInBounds_toArray, List.set_cons_zero, List.set_cons_succ]
      refine wpAnyH_take (i := 2) (v := ?_) (by simp only [List.getElem?_toArray, List.getElem?_cons_succ, List.getElem?_cons_zero]; rfl) (by kernel_rfl) (by kernel_rfl) (by kernel_rfl) (by exact fun _ _ _ h => h) (Or.inl ⟨by rfl, ?_⟩) hHeld ?_
      rotate_left
      · intro w hSw; (try dsimp only at hSw); go_simp; (try with_reducible rfl)
      try simp only [Act.put, List.setIfInBounds_toArray, List.set_cons_zero, List.set_cons_succ]
      refine wpAnyH_take (i := 3) (v := ?_) (by simp only [List.getElem?_toArray, List.getElem?_cons_succ, List.getElem?_cons_zero]; rfl) (by kernel_rfl) (by kernel_rfl) (by kernel_rfl) (by exact fun _ _ _ h => h) (Or.inl ⟨by rfl, ?_⟩) hHeld ?_
      rotate_left
      · intro w hSw; (try dsimp only at hSw); go_simp; (try with_reducible rfl)
      try simp only [Act.put, List.setIfInBounds_toArray, List.set_cons_zero, List.set_cons_succ]
      refine wpAnyH_take (i := 6) (v := ?_) (by simp only [List.getElem?_toArray, List.getElem?_cons_succ, List.getElem?_cons_zero]; rfl) (by kernel_rfl) (by kernel_rfl) (by kernel_rfl) (by exact fun _ _ _ h => h) (Or.inl ⟨by rfl, ?_⟩) hHeld ?_
      rotate_left
      · intro w hSw; (try dsimp only at hSw); go_simp; (try with_reducible rfl)
      try simp only [Act.put, List.setIfInBounds_toArray, List.set_cons_zero, List.set_cons_succ]
      refine wpAnyH_take (i := 7) (v := ?_) (by simp only [List.getElem?_toArray, List.getElem?_cons_succ, List.getElem?_cons_zero]; rfl) (by kernel_rfl) (by kernel_rfl) (by kernel_rfl) (by exact fun _ _ _ h => h) (Or.inl ⟨by rfl, ?_⟩) hHeld ?_
      rotate_left
      · intro w hSw; (try dsimp only at hSw); go_simp; (try with_reducible rfl)
      try simp only [Act.put, List.setIfInBounds_toArray, List.set_cons_zero, List.set_cons_succ]
      refine wpAnyH_ready (rs := [4]) (by kernel_rfl) (by simp) ?_
      refine AllReadyH.cons (by simp only [List.getElem?_toArray, List.getElem?_cons_succ, List.getElem?_cons_zero]; rfl) (fun kC hkC => ?_) AllReadyH.nil
      go_simp
      refine (lock_lit 2 2 4 0 2 0 1 5 (by kernel_rfl) _).mono ?_; rintro e w6 ⟨rfl, hk6⟩; have hT6 := hT5.keep hk6; have m6 := HBm.out _ hT6.s.kp
      (try go_wp2_with fail)
      refine hkC.out _ _ (m6) (fun hHeld => ?_)
      clear hkC kC
      try simp only [Act.put, List.setIfInBounds_toArray, List.set_cons_zero, List.set_cons_succ]
      refine wpAnyH_ready (rs := [5]) (by kernel_rfl) (by simp) ?_
      refine AllReadyH.cons (by simp only [List.getElem?_toArray, List.getElem?_cons_succ, List.getElem?_cons_zero]; rfl) (fun kC hkC => ?_) AllReadyH.nil
      go_simp
      refine (peek_lit a v M 5 _ H5'.out _ hT6.s.m).mono ?_; rintro e w7 ⟨rfl, rfl⟩
      (try go_wp2_with fail)
      refine hkC.out _ _ (m6) (fun hHeld => ?_)
      clear hkC kC
      try simp only [Act.put, List.setIfInBounds_toArray, List.set_cons_zero, List.set_cons_succ]
      refine wpAnyH_ready (rs := [8]) (by kernel_rfl) (by simp) ?_
      refine AllReadyH.cons (by simp only [List.getElem?_toArray, List.getElem?_cons_succ, List.getElem?_cons_zero]; rfl) (fun kC hkC => ?_) AllReadyH.nil
      go_simp
      refine (lock_lit 2 2 4 0 2 0 1 5 (by kernel_rfl) _).mono ?_; rintro e w8 ⟨rfl, hk8⟩; have hT8 := hT6.keep hk8; have m8 := HBm.out _ hT8.s.kp
      (try go_wp2_with fail)
      refine hkC.out _ _ (m8) (fun hHeld => ?_)
      clear hkC kC
      try simp only [Act.put, List.setIfInBounds_toArray, List.set_cons_zero, List.set_cons_succ]
      refine wpAnyH_ready (rs := [9]) (by kernel_rfl) (by simp) ?_
      refine AllReadyH.cons (by simp only [List.getElem?_toArray, List.getElem?_cons_succ, List.getElem?_cons_zero]; rfl) (fun kC hkC => ?_) AllReadyH.nil
      go_simp
      refine (peek_lit c u N 5 _ H5.out _ hT8.r.m).mono ?_; rintro e w9 ⟨rfl, rfl⟩
      (try go_wp2_with fail)
      refine hkC.out _ _ (m8) (fun hHeld => ?_)
      clear hkC kC
      try simp only [Act.put, List.setIfInBounds_toArray, List.set_cons_zero, List.set_cons_succ]
      refine wpAnyH_take (i := 10) (v := ?_) (by simp only [List.getElem?_toArray, List.getElem?_cons_succ, List.getElem?_cons_zero]; rfl) (by kernel_rfl) (by kernel_rfl) (by kernel_rfl) (by exact fun _ _ _ h => h) (Or.inl ⟨by rfl, ?_⟩) hHeld ?_
      rotate_left
      · intro w hSw; (try dsimp only at hSw); go_simp; (try with_reducible rfl)
      try simp only [Act.put, List.setIfInBounds_toArray, List.set_cons_zero, List.set_cons_succ]
      refine wpAnyH_take (i := 11) (v := ?_) (by simp only [List.getElem?_toArray, List.getElem?_cons_succ, List.getElem?_cons_zero]; rfl) (by kernel_rfl) (by kernel_rfl) (by kernel_rfl) (by exact fun _ _ _ h => h) (Or.inl ⟨by rfl, ?_⟩) hHeld ?_
      rotate_left
      · intro w hSw; (try dsimp only at hSw); go_simp; (try with_reducible rfl)
      try simp only [Act.put, List.setIfInBounds_toArray, List.set_cons_zero, List.set_cons_succ]
      refine wpAnyH_take (i := 12) (v := ?_) (by simp only [List.getElem?_toArray, List.getElem?_cons_succ, List.getElem?_cons_zero]; rfl) (by kernel_rfl) (by kernel_rfl) (by kernel_rfl) (by exact fun _ _ _ h => h) (Or.inl ⟨by rfl, ?_⟩) hHeld ?_
      rotate_left
      · intro w hSw; (try dsimp only at hSw); go_simp; (try with_reducible rfl)
      try simp only [Act.put, List.setIfInBounds_toArray, List.set_cons_zero, List.set_cons_succ]
      refine wpAnyH_done (by kernel_rfl) ?_ _
      go_wp2_with fail
      go_ret
      exact ⟨rfl, HWk.out.trans hT8.s.kp⟩
end Go.Proofs.Ytodaiogefgdcpaa
