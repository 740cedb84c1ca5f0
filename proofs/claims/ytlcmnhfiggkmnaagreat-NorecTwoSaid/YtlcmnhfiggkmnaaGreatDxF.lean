/- The document's attempt: its steps. -/
import Derived.Test.YtlcmnhfiggkmnaaGreatDxE
import Derived.Test.YtlcmnhfiggkmnaaGreatHeldT
import Derived.Deep.RegionHeld3
import Derived.Deep.DeepCutAuto
import Derived.Deep.QuietTactic
import Derived.BigQuiet
namespace Go.Proofs.YtlcmnhfiggkmnaaGreat
open Go.RowKit
theorem rclk0 : clockP ⟨3, 1, 3, 0, 4⟩ = 0 := by kernel_rfl
set_option maxHeartbeats 4000000 in
set_option maxRecDepth 100000 in
theorem dstepBegin_any {w : World} {c Y : Nat} {u rv wv : Value} {M : MemS} {d : DxS} (h : DX w c u M Y rv wv d)  : Calls Tryz.prog 61 #[.pointer (some ⟨Y, 0, none⟩), .pointer (some ⟨c, 0, none⟩)] w fun e w' => e = .returned (.int .i64 (stepBeginD M d).2.2) ∧ DXP w w' c u (stepBeginD M d).1 Y rv wv (stepBeginD M d).2.1 := by
  have c0 := h.tx.c 0 (u := .int .i64 3) rfl
  have c1 := h.tx.c 1 (u := .int .i64 1) rfl
  have c2 := h.tx.c 2 (u := .int .i64 3) rfl
  have c3 := h.tx.c 3 (u := .int .i64 0) rfl
  have c4 := h.tx.c 4 (u := .int .i64 4) rfl
  have hl := h.tx.lt
  obtain ⟨sq, hsq⟩ : ∃ z, M.atP 1 = z := ⟨_, rfl⟩
  have HSQ := Lib.hid hsq
  cases ho : oddB sq with
  | true =>
    have HR := Lib.hid (show stepBeginD M d = (M.loadI 1, (d, 0)) by unfold stepBeginD; rw [hsq, ho]; rfl)
    have hob : (bits BinOp.and IntKind.i64 sq 1 == 1) = true := ho
    clear ho hsq
    go_enter Tryz.func61, Tryz.ntmps61
    go_upto_region 2 with (go_at_call 99; refine (rclock_lit 3 1 3 0 4 0 rclk0 _).mono ?_; rintro e w1 ⟨rfl, hk1⟩)
    have h1 := h.no hk1
    clear c0 c1 c2 c3 c4 hl
    have c0 := h1.tx.c 0 (u := .int .i64 3) rfl
    have c1 := h1.tx.c 1 (u := .int .i64 1) rfl
    have c2 := h1.tx.c 2 (u := .int .i64 3) rfl
    have c3 := h1.tx.c 3 (u := .int .i64 0) rfl
    have c4 := h1.tx.c 4 (u := .int .i64 4) rfl
    have c5 := h1.tx.c 5 (u := .bool true) rfl
    have hl := h1.tx.lt
    go_upto_region 4 with (go_at_call 100; refine (rseq_lit 3 1 3 0 4 1 rseq1 _).mono ?_; rintro e w2 ⟨rfl, hk2⟩)
    have h2 := h1.no hk2
    clear c0 c1 c2 c3 c4 c5 hl
    go_upto_region 5 with (go_at_call 101; refine (rload_tot c u M 1 _ h2.mm).mono ?_; rw [HSQ.out]; rintro e w3 ⟨rfl, hm, hk3⟩)
    have h3 := h2.mem hm hk3
    have k3 : Keeps (fun g => dxO Y rv wv g ∨ own2m c u g) w w3 := (hk1.trans hk2).no.trans (kM hk3)
    clear hm hk1 hk2 hk3 h1 h2
    have c5 := h3.tx.c 5 (u := .bool true) rfl
    have c29 := h3.tx.c 29 (u := .int .i64 d.stamp) rfl
    have f29 := h3.tx.f 29
    have hl := h3.tx.lt
    go_wp2_with fail
    go_ret
    rw [HR.out]
    exact ⟨rfl, h3.kp k3⟩
  | false =>
    have HR := Lib.hid (show stepBeginD M d = (M.loadI 1, (endD { d with stamp := sq }, 1)) by unfold stepBeginD; rw [hsq, ho]; rfl)
    have hob : (bits BinOp.and IntKind.i64 sq 1 == 1) = false := ho
    clear ho hsq
    go_enter Tryz.func61, Tryz.ntmps61
    go_upto_region 2 with (go_at_call 99; refine (rclock_lit 3 1 3 0 4 0 rclk0 _).mono ?_; rintro e w1 ⟨rfl, hk1⟩)
    have h1 := h.no hk1
    clear c0 c1 c2 c3 c4 hl
    have c0 := h1.tx.c 0 (u := .int .i64 3) rfl
    have c1 := h1.tx.c 1 (u := .int .i64 1) rfl
    have c2 := h1.tx.c 2 (u := .int .i64 3) rfl
    have c3 := h1.tx.c 3 (u := .int .i64 0) rfl
    have c4 := h1.tx.c 4 (u := .int .i64 4) rfl
    have c5 := h1.tx.c 5 (u := .bool true) rfl
    have hl := h1.tx.lt
    go_upto_region 4 with (go_at_call 100; refine (rseq_lit 3 1 3 0 4 1 rseq1 _).mono ?_; rintro e w2 ⟨rfl, hk2⟩)
    have h2 := h1.no hk2
    clear c0 c1 c2 c3 c4 c5 hl
    go_upto_region 5 with (go_at_call 101; refine (rload_tot c u M 1 _ h2.mm).mono ?_; rw [HSQ.out]; rintro e w3 ⟨rfl, hm, hk3⟩)
    have h3 := h2.mem hm hk3
    have k3 : Keeps (fun g => dxO Y rv wv g ∨ own2m c u g) w w3 := (hk1.trans hk2).no.trans (kM hk3)
    clear hm hk1 hk2 hk3 h1 h2
    have c5 := h3.tx.c 5 (u := .bool true) rfl
    have c29 := h3.tx.c 29 (u := .int .i64 d.stamp) rfl
    have f29 := h3.tx.f 29
    have hl := h3.tx.lt
    go_upto_region 8 with fail
    have h4 := h3.set 29 (.int .i64 sq) (d' := { d with stamp := sq }) rfl rfl rfl
    have k4 : Keeps (fun g => dxO Y rv wv g ∨ own2m c u g) w (w3.setCell ⟨Y, 29, none⟩ (.int .i64 sq)) := k3.trans (kY (keepsY w3 Y 29 (.int .i64 sq)))
    generalize w3.setCell ⟨Y, 29, none⟩ (.int .i64 sq) = w4 at *
    clear c5 c29 f29 hl h3 k3
    go_wp2_with (go_at_call 102; refine (dend_any h4).mono ?_; rintro e w5 ⟨rfl, h5, k5⟩)
    go_ret
    rw [HR.out]
    exact ⟨rfl, h5.kp (k4.trans (kY k5))⟩
theorem looked_code (M : MemS) (d : DxS) : (lookedD M d).2.2 = 0 ∨ (lookedD M d).2.2 = 1 ∨ (lookedD M d).2.2 = 2 := by
  unfold lookedD
  split
  · dsimp only; split <;> exact .inl rfl
  · split
    · dsimp only; split
      · exact .inl rfl
      · exact .inr (.inr rfl)
    · dsimp only; split
      · exact .inr (.inl rfl)
      · exact .inl rfl
set_option maxHeartbeats 4000000 in
set_option maxRecDepth 100000 in
theorem dtake_any {w : World} {c Y : Nat} {u rv wv : Value} {M : MemS} {d : DxS} (h : DX w c u M Y rv wv d) (hp : d.look = 0 ∨ lookedOk d) (hrl : d.R.length ≤ 32) : Calls Tryz.prog 113 #[.pointer (some ⟨Y, 0, none⟩), .pointer (some ⟨c, 0, none⟩)] w fun e w' => e = .returned (.int .i64 (takeD M d).2.2) ∧ DXP w w' c u (takeD M d).1 Y rv wv (takeD M d).2.1 := by
  have c22 := h.tx.c 22 (u := .int .i64 d.look) rfl
  have hl := h.tx.lt
  by_cases hk : 0 < d.look
  · have hok : lookedOk d := hp.resolve_left (by omega)
    have HLK := Lib.hid (dlooked_any h hok hrl)
    obtain ⟨res, hres⟩ : ∃ z, lookedD M d = z := ⟨_, rfl⟩
    have hcd := looked_code M d
    rw [hres] at hcd
    have e0 : decide (0 < d.look) = true := decide_eq_true hk
    obtain ⟨M', d', cc⟩ := res
    dsimp only at hcd
    have HLR := Lib.hid hres
    have HT := Lib.hid (show takeD M d = (M', if cc = 1 then seatD d' else if 1 < cc then abortD d' 2 else (d', 0)) by unfold takeD; rw [if_pos hk, hres])
    clear hk hres
    rcases hcd with rfl | rfl | rfl
    · have HR := Lib.hid (show takeD M d = (M', (d', 0)) from HT.out)
      clear HT
      go_enter Tryz.func113, Tryz.ntmps113
      go_wp2_with (go_at_call 103; refine HLK.out.mono ?_; rw [HLR.out]; rintro e w1 ⟨rfl, h1, k1⟩)
      go_ret
      rw [HR.out]
      exact ⟨rfl, h1.kp k1⟩
    · have HR := Lib.hid (show takeD M d = (M', seatD d') from HT.out)
      clear HT
      go_enter Tryz.func113, Tryz.ntmps113
      go_wp2_with (first
        | (go_at_call 103; refine HLK.out.mono ?_; rw [HLR.out]; rintro e w1 ⟨rfl, h1, k1⟩)
        | (go_at_call 112; refine (dseat_any h1).mono ?_; rintro e w2 ⟨rfl, h2, k2⟩))
      go_ret
      rw [HR.out]
      exact ⟨rfl, h2.kp (k1.trans (kY k2))⟩
    · have HR := Lib.hid (show takeD M d = (M', abortD d' 2) from HT.out)
      clear HT
      go_enter Tryz.func113, Tryz.ntmps113
      go_wp2_with (first
        | (go_at_call 103; refine HLK.out.mono ?_; rw [HLR.out]; rintro e w1 ⟨rfl, h1, k1⟩)
        | (go_at_call 104; refine (why_any 2 _).mono ?_; rw [if_neg (by decide)]; rintro e w2 ⟨rfl, hw2⟩; subst hw2)
        | (go_at_call 46; refine (dabort_any h1 2).mono ?_; rintro e w3 ⟨rfl, h2, k2⟩))
      go_ret
      rw [HR.out]
      exact ⟨rfl, h2.kp (k1.trans (kY k2))⟩
  · have hl0 : d.look = 0 := by rcases hp with e | (e | ⟨e, _⟩ | e) <;> omega
    have hk0 : d.look = 0 := hl0
    have e0 : decide (0 < d.look) = false := decide_eq_false hk
    have hr : takeD M d = (M.swapI 1 d.stamp (wrap64 (d.stamp + 1)), if M.swapOk 1 d.stamp then sureD { d with made := wrap64 (d.stamp + 2), locked := true, state := 5, i := 0 } else ({ d with look := 1 }, 0)) := by unfold takeD; rw [if_neg hk]
    clear hk hk0
    cases qs : M.swapOk 1 d.stamp with
    | true =>
      have HR := Lib.hid (show takeD M d = (M.swapI 1 d.stamp (wrap64 (d.stamp + 1)), sureD { d with made := wrap64 (d.stamp + 2), locked := true, state := 5, i := 0 }) by rw [hr, qs]; rfl)
      have HSO := Lib.hid qs
      clear hr qs
      go_enter Tryz.func113, Tryz.ntmps113
      go_upto_region 8 with fail
      have hd := h.no ((Keeps.refl NoS w).drew)
      clear c22 hl
      refine wp_region_held_drew (S := (fun w' => (w'.cell? ⟨Y, 0, none⟩ = some (.int .i64 3) ∧ w'.cell? ⟨Y, 1, none⟩ = some (.int .i64 1) ∧ w'.cell? ⟨Y, 2, none⟩ = some (.int .i64 3) ∧ w'.cell? ⟨Y, 3, none⟩ = some (.int .i64 0) ∧ w'.cell? ⟨Y, 4, none⟩ = some (.int .i64 4)) ∧ w'.cell? ⟨Y, 29, none⟩ = some (.int .i64 d.stamp))) (by kernel_rfl) (⟨⟨hd.tx.c 0 rfl, hd.tx.c 1 rfl, hd.tx.c 2 rfl, hd.tx.c 3 rfl, hd.tx.c 4 rfl⟩, hd.tx.c 29 rfl⟩) (fun hHeld => ?_)
      refine wpAnyH_take (i := 0) (v := ?_) (by simp only [List.getElem?_toArray, List.getElem?_cons_succ, List.getElem?_cons_zero]; rfl) (by kernel_rfl) (by kernel_rfl) (by kernel_rfl) (by exact fun _ _ _ h => h) (Or.inl ⟨by rfl, ?_⟩) hHeld ?_
      rotate_left
      · intro w hSw; (try dsimp only at hSw); go_simp; (try with_reducible rfl)
      try simp only [Act.put, List.setIfInBounds_toArray, List.set_cons_zero, List.set_cons_succ]
      refine wpAnyH_take (i := 1) (v := ?_) (by simp only [List.getElem?_toArray, List.getElem?_cons_succ, List.getElem?_cons_zero]; rfl) (by kernel_rfl) (by kernel_rfl) (by kernel_rfl) (by exact fun _ _ _ h => h) (Or.inl ⟨by rfl, ?_⟩) hHeld ?_
      rotate_left
      · intro w hSw; (try dsimp only at hSw); go_simp; (try with_reducible rfl)
      try simp only [Act.put, List.setIfInBounds_toArray, List.set_cons_zero, List.set_cons_succ]
      refine wpAnyH_take (i := 2) (v := ?_) (by simp only [List.getElem?_toArray, List.getElem?_cons_succ, List.getElem?_cons_zero]; rfl) (by kernel_rfl) (by kernel_rfl) (by kernel_rfl) (by exact fun _ _ _ h => h) (Or.inl ⟨by rfl, ?_⟩) hHeld ?_
      rotate_left
      · intro w hSw; (try dsimp only at hSw); go_simp; (try with_reducible rfl)
      try simp only [Act.put, List.setIfInBounds_toArray, List.set_cons_zero, List.set_cons_succ]
      refine wpAnyH_take (i := 3) (v := ?_) (by simp only [List.getElem?_toArray, List.getElem?_cons_succ, List.getElem?_cons_zero]; rfl) (by kernel_rfl) (by kernel_rfl) (by kernel_rfl) (by exact fun _ _ _ h => h) (Or.inl ⟨by rfl, ?_⟩) hHeld ?_
      rotate_left
      · intro w hSw; (try dsimp only at hSw); go_simp; (try with_reducible rfl)
      try simp only [Act.put, List.setIfInBounds_toArray, List.set_cons_zero, List.set_cons_succ]
      refine wpAnyH_take (i := 4) (v := ?_) (by simp only [List.getElem?_toArray, List.getElem?_cons_succ, List.getElem?_cons_zero]; rfl) (by kernel_rfl) (by kernel_rfl) (by kernel_rfl) (by exact fun _ _ _ h => h) (Or.inl ⟨by rfl, ?_⟩) hHeld ?_
      rotate_left
      · intro w hSw; (try dsimp only at hSw); go_simp; (try with_reducible rfl)
      try simp only [Act.put, List.setIfInBounds_toArray, List.set_cons_zero, List.set_cons_succ]
      refine wpAnyH_take (i := 6) (v := ?_) (by simp only [List.getElem?_toArray, List.getElem?_cons_succ, List.getElem?_cons_zero]; rfl) (by kernel_rfl) (by kernel_rfl) (by kernel_rfl) (by exact fun _ _ _ h => h) (Or.inl ⟨by rfl, ?_⟩) hHeld ?_
      rotate_left
      · intro w hSw; (try dsimp only at hSw); go_simp; (try with_reducible rfl)
      try simp only [Act.put, List.setIfInBounds_toArray, List.set_cons_zero, List.set_cons_succ]
      refine wpAnyH_take (i := 7) (v := ?_) (by simp only [List.getElem?_toArray, List.getElem?_cons_succ, List.getElem?_cons_zero]; rfl) (by kernel_rfl) (by kernel_rfl) (by kernel_rfl) (by exact fun _ _ _ h => h) (Or.inl ⟨by rfl, ?_⟩) hHeld ?_
      rotate_left
      · intro w hSw; (try dsimp only at hSw); go_simp; (try with_reducible rfl)
      try simp only [Act.put, List.setIfInBounds_toArray, List.set_cons_zero, List.set_cons_succ]
      refine wpAnyH_take (i := 8) (v := ?_) (by simp only [List.getElem?_toArray, List.getElem?_cons_succ, List.getElem?_cons_zero]; rfl) (by kernel_rfl) (by kernel_rfl) (by kernel_rfl) (by exact fun _ _ _ h => h) (Or.inl ⟨by rfl, ?_⟩) hHeld ?_
      rotate_left
      · intro w hSw; (try dsimp only at hSw); go_simp; (try with_reducible rfl)
      try simp only [Act.put, List.setIfInBounds_toArray, List.set_cons_zero, List.set_cons_succ]
      refine wpAnyH_take (i := 9) (v := ?_) (by simp only [List.getElem?_toArray, List.getElem?_cons_succ, List.getElem?_cons_zero]; rfl) (by kernel_rfl) (by kernel_rfl) (by kernel_rfl) (by exact fun _ _ _ h => h) (Or.inl ⟨by rfl, ?_⟩) hHeld ?_
      rotate_left
      · intro w hSw; (try dsimp only at hSw); go_simp; (try with_reducible rfl)
      try simp only [Act.put, List.setIfInBounds_toArray, List.set_cons_zero, List.set_cons_succ]
      refine wpAnyH_take (i := 10) (v := ?_) (by simp only [List.getElem?_toArray, List.getElem?_cons_succ, List.getElem?_cons_zero]; rfl) (by kernel_rfl) (by kernel_rfl) (by kernel_rfl) (by exact fun _ _ _ h => h) (Or.inl ⟨by rfl, ?_⟩) hHeld ?_
      rotate_left
      · intro w hSw; (try dsimp only at hSw); go_simp; (try with_reducible rfl)
      try simp only [Act.put, List.setIfInBounds_toArray, List.set_cons_zero, List.set_cons_succ]
      refine wpAnyH_take (i := 11) (v := ?_) (by simp only [List.getElem?_toArray, List.getElem?_cons_succ, List.getElem?_cons_zero]; rfl) (by kernel_rfl) (by kernel_rfl) (by kernel_rfl) (by exact fun _ _ _ h => h) (Or.inl ⟨by rfl, ?_⟩) hHeld ?_
      rotate_left
      · intro w hSw; (try dsimp only at hSw); go_simp; (try with_reducible rfl)
      try simp only [Act.put, List.setIfInBounds_toArray, List.set_cons_zero, List.set_cons_succ]
      refine wpAnyH_take (i := 12) (v := ?_) (by simp only [List.getElem?_toArray, List.getElem?_cons_succ, List.getElem?_cons_zero]; rfl) (by kernel_rfl) (by kernel_rfl) (by kernel_rfl) (by exact fun _ _ _ h => h) (Or.inl ⟨by rfl, ?_⟩) hHeld ?_
      rotate_left
      · intro w hSw; (try dsimp only at hSw); go_simp; (try with_reducible rfl)
      try simp only [Act.put, List.setIfInBounds_toArray, List.set_cons_zero, List.set_cons_succ]
      refine wpAnyH_take (i := 13) (v := ?_) (by simp only [List.getElem?_toArray, List.getElem?_cons_succ, List.getElem?_cons_zero]; rfl) (by kernel_rfl) (by kernel_rfl) (by kernel_rfl) (by exact fun _ _ _ h => h) (Or.inl ⟨by rfl, ?_⟩) hHeld ?_
      rotate_left
      · intro w hSw; (try dsimp only at hSw); go_simp; (try with_reducible rfl)
      try simp only [Act.put, List.setIfInBounds_toArray, List.set_cons_zero, List.set_cons_succ]
      refine wpAnyH_take (i := 14) (v := ?_) (by simp only [List.getElem?_toArray, List.getElem?_cons_succ, List.getElem?_cons_zero]; rfl) (by kernel_rfl) (by kernel_rfl) (by kernel_rfl) (by exact fun _ _ _ h => h) (Or.inl ⟨by rfl, ?_⟩) hHeld ?_
      rotate_left
      · intro w hSw; (try dsimp only at hSw); go_simp; (try with_reducible rfl)
      try simp only [Act.put, List.setIfInBounds_toArray, List.set_cons_zero, List.set_cons_succ]
      refine wpAnyH_ready (rs := [5]) (by kernel_rfl) (by simp) ?_
      refine AllReadyH.cons (by simp only [List.getElem?_toArray, List.getElem?_cons_succ, List.getElem?_cons_zero]; rfl) (fun kC hkC => ?_) AllReadyH.nil
      go_simp
      refine (rseq_lit 3 1 3 0 4 1 rseq1 _).mono ?_; rintro e w' ⟨rfl, hk1⟩; have h1 := hd.no hk1
      (try go_wp2_with fail)
      refine hkC.out _ _ (⟨⟨h1.tx.c 0 rfl, h1.tx.c 1 rfl, h1.tx.c 2 rfl, h1.tx.c 3 rfl, h1.tx.c 4 rfl⟩, h1.tx.c 29 rfl⟩) (fun hHeld => ?_)
      clear hkC kC
      try simp only [Act.put, List.setIfInBounds_toArray, List.set_cons_zero, List.set_cons_succ]
      refine wpAnyH_ready (rs := [15]) (by kernel_rfl) (by simp) ?_
      refine AllReadyH.cons (by simp only [List.getElem?_toArray, List.getElem?_cons_succ, List.getElem?_cons_zero]; rfl) (fun kC hkC => ?_) AllReadyH.nil
      go_simp
      (try rw [wrap_w]); refine (rswap_tot c u M 1 d.stamp (wrap64 (d.stamp + 1)) _ h1.mm).mono ?_; rw [HSO.out]; rintro e w3 ⟨rfl, hm, hk3⟩; have h3 := h1.mem hm hk3
      (try go_wp2_with fail)
      refine hkC.out _ _ (⟨⟨h3.tx.c 0 rfl, h3.tx.c 1 rfl, h3.tx.c 2 rfl, h3.tx.c 3 rfl, h3.tx.c 4 rfl⟩, h3.tx.c 29 rfl⟩) (fun hHeld => ?_)
      clear hkC kC
      try simp only [Act.put, List.setIfInBounds_toArray, List.set_cons_zero, List.set_cons_succ]
      refine wpAnyH_take (i := 16) (v := ?_) (by simp only [List.getElem?_toArray, List.getElem?_cons_succ, List.getElem?_cons_zero]; rfl) (by kernel_rfl) (by kernel_rfl) (by kernel_rfl) (by exact fun _ _ _ h => h) (Or.inl ⟨by rfl, ?_⟩) hHeld ?_
      rotate_left
      · intro w hSw; (try dsimp only at hSw); go_simp; (try with_reducible rfl)
      try simp only [Act.put, List.setIfInBounds_toArray, List.set_cons_zero, List.set_cons_succ]
      refine wpAnyH_take (i := 17) (v := ?_) (by simp only [List.getElem?_toArray, List.getElem?_cons_succ, List.getElem?_cons_zero]; rfl) (by kernel_rfl) (by kernel_rfl) (by kernel_rfl) (by exact fun _ _ _ h => h) (Or.inl ⟨by rfl, ?_⟩) hHeld ?_
      rotate_left
      · intro w hSw; (try dsimp only at hSw); go_simp; (try with_reducible rfl)
      try simp only [Act.put, List.setIfInBounds_toArray, List.set_cons_zero, List.set_cons_succ]
      refine wpAnyH_take (i := 18) (v := ?_) (by simp only [List.getElem?_toArray, List.getElem?_cons_succ, List.getElem?_cons_zero]; rfl) (by kernel_rfl) (by kernel_rfl) (by kernel_rfl) (by exact fun _ _ _ h => h) (Or.inl ⟨by rfl, ?_⟩) hHeld ?_
      rotate_left
      · intro w hSw; (try dsimp only at hSw); go_simp; (try with_reducible rfl)
      try simp only [Act.put, List.setIfInBounds_toArray, List.set_cons_zero, List.set_cons_succ]
      refine wpAnyH_take (i := 19) (v := ?_) (by simp only [List.getElem?_toArray, List.getElem?_cons_succ, List.getElem?_cons_zero]; rfl) (by kernel_rfl) (by kernel_rfl) (by kernel_rfl) (by exact fun _ _ _ h => h) (Or.inl ⟨by rfl, ?_⟩) hHeld ?_
      rotate_left
      · intro w hSw; (try dsimp only at hSw); go_simp; (try with_reducible rfl)
      try simp only [Act.put, List.setIfInBounds_toArray, List.set_cons_zero, List.set_cons_succ]
      refine wpAnyH_take (i := 20) (v := ?_) (by simp only [List.getElem?_toArray, List.getElem?_cons_succ, List.getElem?_cons_zero]; rfl) (by kernel_rfl) (by kernel_rfl) (by kernel_rfl) (by exact fun _ _ _ h => h) (Or.inl ⟨by rfl, ?_⟩) hHeld ?_
      rotate_left
      · intro w hSw; (try dsimp only at hSw); go_simp; (try with_reducible rfl)
      try simp only [Act.put, List.setIfInBounds_toArray, List.set_cons_zero, List.set_cons_succ]
      refine wpAnyH_take (i := 21) (v := ?_) (by simp only [List.getElem?_toArray, List.getElem?_cons_succ, List.getElem?_cons_zero]; rfl) (by kernel_rfl) (by kernel_rfl) (by kernel_rfl) (by exact fun _ _ _ h => h) (Or.inl ⟨by rfl, ?_⟩) hHeld ?_
      rotate_left
      · intro w hSw; (try dsimp only at hSw); go_simp; (try with_reducible rfl)
      try simp only [Act.put, List.setIfInBounds_toArray, List.set_cons_zero, List.set_cons_succ]
      refine wpAnyH_take (i := 22) (v := ?_) (by simp only [List.getElem?_toArray, List.getElem?_cons_succ, List.getElem?_cons_zero]; rfl) (by kernel_rfl) (by kernel_rfl) (by kernel_rfl) (by exact fun _ _ _ h => h) (Or.inl ⟨by rfl, ?_⟩) hHeld ?_
      rotate_left
      · intro w hSw; (try dsimp only at hSw); go_simp; (try with_reducible rfl)
      try simp only [Act.put, List.setIfInBounds_toArray, List.set_cons_zero, List.set_cons_succ]
      refine wpAnyH_done (by kernel_rfl) ?_ _
      have k3 : Keeps (fun g => dxO Y rv wv g ∨ own2m c u g) w w3 := ((Keeps.refl NoS w).drew.trans hk1).no.trans (kM hk3)
      clear hm hk1 hk3 h1 hd hHeld
      have c29 := h3.tx.c 29 (u := .int .i64 d.stamp) rfl
      have c30 := h3.tx.c 30 (u := .int .i64 d.made) rfl
      have c18 := h3.tx.c 18 (u := .bool d.locked) rfl
      have c20 := h3.tx.c 20 (u := .int .i64 d.state) rfl
      have c21 := h3.tx.c 21 (u := .int .i64 d.i) rfl
      have f30 := h3.tx.f 30
      have f18 := h3.tx.f 18
      have f20 := h3.tx.f 20
      have f21 := h3.tx.f 21
      have hl := h3.tx.lt
      go_upto_region 14 with fail
      have h4 := ((((h3.set 30 (.int .i64 (wrap64 (d.stamp + 2))) (d' := { d with made := (wrap64 (d.stamp + 2)) }) rfl rfl rfl).set 18 (.bool true) (d' := { d with made := (wrap64 (d.stamp + 2)), locked := true }) rfl rfl rfl).set 20 (.int .i64 5) (d' := { d with made := (wrap64 (d.stamp + 2)), locked := true, state := 5 }) rfl rfl rfl).set 21 (.int .i64 0) (d' := { d with made := (wrap64 (d.stamp + 2)), locked := true, state := 5, i := 0 }) rfl rfl rfl)
      have k4 : Keeps (fun g => dxO Y rv wv g ∨ own2m c u g) w ((((w3.setCell ⟨Y, 30, none⟩ (.int .i64 (wrap64 (d.stamp + 2)))).setCell ⟨Y, 18, none⟩ (.bool true)).setCell ⟨Y, 20, none⟩ (.int .i64 5)).setCell ⟨Y, 21, none⟩ (.int .i64 0)) := k3.trans (kY (((((Keeps.refl (just Y) w3).setCell (p := ⟨Y, 30, none⟩) (fun _ => rfl) _).setCell (p := ⟨Y, 18, none⟩) (fun _ => rfl) _).setCell (p := ⟨Y, 20, none⟩) (fun _ => rfl) _).setCell (p := ⟨Y, 21, none⟩) (fun _ => rfl) _))
      generalize ((((w3.setCell ⟨Y, 30, none⟩ (.int .i64 (wrap64 (d.stamp + 2)))).setCell ⟨Y, 18, none⟩ (.bool true)).setCell ⟨Y, 20, none⟩ (.int .i64 5)).setCell ⟨Y, 21, none⟩ (.int .i64 0)) = w4 at *
      clear c29 c30 c18 c20 c21 f30 f18 f20 f21 hl h3 k3
      go_wp2_with (go_at_call 119; refine (dsure_any h4 (Int.le_refl _)).mono ?_; rintro e w5 ⟨rfl, h5, k5⟩)
      go_ret
      rw [HR.out]
      exact ⟨rfl, h5.kp (k4.trans (kY k5))⟩
    | false =>
      have HR := Lib.hid (show takeD M d = (M.swapI 1 d.stamp (wrap64 (d.stamp + 1)), ({ d with look := 1 }, 0)) by rw [hr, qs]; rfl)
      have HSO := Lib.hid qs
      clear hr qs
      go_enter Tryz.func113, Tryz.ntmps113
      go_upto_region 8 with fail
      have hd := h.no ((Keeps.refl NoS w).drew)
      clear c22 hl
      refine wp_region_held_drew (S := (fun w' => (w'.cell? ⟨Y, 0, none⟩ = some (.int .i64 3) ∧ w'.cell? ⟨Y, 1, none⟩ = some (.int .i64 1) ∧ w'.cell? ⟨Y, 2, none⟩ = some (.int .i64 3) ∧ w'.cell? ⟨Y, 3, none⟩ = some (.int .i64 0) ∧ w'.cell? ⟨Y, 4, none⟩ = some (.int .i64 4)) ∧ w'.cell? ⟨Y, 29, none⟩ = some (.int .i64 d.stamp))) (by kernel_rfl) (⟨⟨hd.tx.c 0 rfl, hd.tx.c 1 rfl, hd.tx.c 2 rfl, hd.tx.c 3 rfl, hd.tx.c 4 rfl⟩, hd.tx.c 29 rfl⟩) (fun hHeld => ?_)
      refine wpAnyH_take (i := 0) (v := ?_) (by simp only [List.getElem?_toArray, List.getElem?_cons_succ, List.getElem?_cons_zero]; rfl) (by kernel_rfl) (by kernel_rfl) (by kernel_rfl) (by exact fun _ _ _ h => h) (Or.inl ⟨by rfl, ?_⟩) hHeld ?_
      rotate_left
      · intro w hSw; (try dsimp only at hSw); go_simp; (try with_reducible rfl)
      try simp only [Act.put, List.setIfInBounds_toArray, List.set_cons_zero, List.set_cons_succ]
      refine wpAnyH_take (i := 1) (v := ?_) (by simp only [List.getElem?_toArray, List.getElem?_cons_succ, List.getElem?_cons_zero]; rfl) (by kernel_rfl) (by kernel_rfl) (by kernel_rfl) (by exact fun _ _ _ h => h) (Or.inl ⟨by rfl, ?_⟩) hHeld ?_
      rotate_left
      · intro w hSw; (try dsimp only at hSw); go_simp; (try with_reducible rfl)
      try simp only [Act.put, List.setIfInBounds_toArray, List.set_cons_zero, List.set_cons_succ]
      refine wpAnyH_take (i := 2) (v := ?_) (by simp only [List.getElem?_toArray, List.getElem?_cons_succ, List.getElem?_cons_zero]; rfl) (by kernel_rfl) (by kernel_rfl) (by kernel_rfl) (by exact fun _ _ _ h => h) (Or.inl ⟨by rfl, ?_⟩) hHeld ?_
      rotate_left
      · intro w hSw; (try dsimp only at hSw); go_simp; (try with_reducible rfl)
      try simp only [Act.put, List.setIfInBounds_toArray, List.set_cons_zero, List.set_cons_succ]
      refine wpAnyH_take (i := 3) (v := ?_) (by simp only [List.getElem?_toArray, List.getElem?_cons_succ, List.getElem?_cons_zero]; rfl) (by kernel_rfl) (by kernel_rfl) (by kernel_rfl) (by exact fun _ _ _ h => h) (Or.inl ⟨by rfl, ?_⟩) hHeld ?_
      rotate_left
      · intro w hSw; (try dsimp only at hSw); go_simp; (try with_reducible rfl)
      try simp only [Act.put, List.setIfInBounds_toArray, List.set_cons_zero, List.set_cons_succ]
      refine wpAnyH_take (i := 4) (v := ?_) (by simp only [List.getElem?_toArray, List.getElem?_cons_succ, List.getElem?_cons_zero]; rfl) (by kernel_rfl) (by kernel_rfl) (by kernel_rfl) (by exact fun _ _ _ h => h) (Or.inl ⟨by rfl, ?_⟩) hHeld ?_
      rotate_left
      · intro w hSw; (try dsimp only at hSw); go_simp; (try with_reducible rfl)
      try simp only [Act.put, List.setIfInBounds_toArray, List.set_cons_zero, List.set_cons_succ]
      refine wpAnyH_take (i := 6) (v := ?_) (by simp only [List.getElem?_toArray, List.getElem?_cons_succ, List.getElem?_cons_zero]; rfl) (by kernel_rfl) (by kernel_rfl) (by kernel_rfl) (by exact fun _ _ _ h => h) (Or.inl ⟨by rfl, ?_⟩) hHeld ?_
      rotate_left
      · intro w hSw; (try dsimp only at hSw); go_simp; (try with_reducible rfl)
      try simp only [Act.put, List.setIfInBounds_toArray, List.set_cons_zero, List.set_cons_succ]
      refine wpAnyH_take (i := 7) (v := ?_) (by simp only [List.getElem?_toArray, List.getElem?_cons_succ, List.getElem?_cons_zero]; rfl) (by kernel_rfl) (by kernel_rfl) (by kernel_rfl) (by exact fun _ _ _ h => h) (Or.inl ⟨by rfl, ?_⟩) hHeld ?_
      rotate_left
      · intro w hSw; (try dsimp only at hSw); go_simp; (try with_reducible rfl)
      try simp only [Act.put, List.setIfInBounds_toArray, List.set_cons_zero, List.set_cons_succ]
      refine wpAnyH_take (i := 8) (v := ?_) (by simp only [List.getElem?_toArray, List.getElem?_cons_succ, List.getElem?_cons_zero]; rfl) (by kernel_rfl) (by kernel_rfl) (by kernel_rfl) (by exact fun _ _ _ h => h) (Or.inl ⟨by rfl, ?_⟩) hHeld ?_
      rotate_left
      · intro w hSw; (try dsimp only at hSw); go_simp; (try with_reducible rfl)
      try simp only [Act.put, List.setIfInBounds_toArray, List.set_cons_zero, List.set_cons_succ]
      refine wpAnyH_take (i := 9) (v := ?_) (by simp only [List.getElem?_toArray, List.getElem?_cons_succ, List.getElem?_cons_zero]; rfl) (by kernel_rfl) (by kernel_rfl) (by kernel_rfl) (by exact fun _ _ _ h => h) (Or.inl ⟨by rfl, ?_⟩) hHeld ?_
      rotate_left
      · intro w hSw; (try dsimp only at hSw); go_simp; (try with_reducible rfl)
      try simp only [Act.put, List.setIfInBounds_toArray, List.set_cons_zero, List.set_cons_succ]
      refine wpAnyH_take (i := 10) (v := ?_) (by simp only [List.getElem?_toArray, List.getElem?_cons_succ, List.getElem?_cons_zero]; rfl) (by kernel_rfl) (by kernel_rfl) (by kernel_rfl) (by exact fun _ _ _ h => h) (Or.inl ⟨by rfl, ?_⟩) hHeld ?_
      rotate_left
      · intro w hSw; (try dsimp only at hSw); go_simp; (try with_reducible rfl)
      try simp only [Act.put, List.setIfInBounds_toArray, List.set_cons_zero, List.set_cons_succ]
      refine wpAnyH_take (i := 11) (v := ?_) (by simp only [List.getElem?_toArray, List.getElem?_cons_succ, List.getElem?_cons_zero]; rfl) (by kernel_rfl) (by kernel_rfl) (by kernel_rfl) (by exact fun _ _ _ h => h) (Or.inl ⟨by rfl, ?_⟩) hHeld ?_
      rotate_left
      · intro w hSw; (try dsimp only at hSw); go_simp; (try with_reducible rfl)
      try simp only [Act.put, List.setIfInBounds_toArray, List.set_cons_zero, List.set_cons_succ]
      refine wpAnyH_take (i := 12) (v := ?_) (by simp only [List.getElem?_toArray, List.getElem?_cons_succ, List.getElem?_cons_zero]; rfl) (by kernel_rfl) (by kernel_rfl) (by kernel_rfl) (by exact fun _ _ _ h => h) (Or.inl ⟨by rfl, ?_⟩) hHeld ?_
      rotate_left
      · intro w hSw; (try dsimp only at hSw); go_simp; (try with_reducible rfl)
      try simp only [Act.put, List.setIfInBounds_toArray, List.set_cons_zero, List.set_cons_succ]
      refine wpAnyH_take (i := 13) (v := ?_) (by simp only [List.getElem?_toArray, List.getElem?_cons_succ, List.getElem?_cons_zero]; rfl) (by kernel_rfl) (by kernel_rfl) (by kernel_rfl) (by exact fun _ _ _ h => h) (Or.inl ⟨by rfl, ?_⟩) hHeld ?_
      rotate_left
      · intro w hSw; (try dsimp only at hSw); go_simp; (try with_reducible rfl)
      try simp only [Act.put, List.setIfInBounds_toArray, List.set_cons_zero, List.set_cons_succ]
      refine wpAnyH_take (i := 14) (v := ?_) (by simp only [List.getElem?_toArray, List.getElem?_cons_succ, List.getElem?_cons_zero]; rfl) (by kernel_rfl) (by kernel_rfl) (by kernel_rfl) (by exact fun _ _ _ h => h) (Or.inl ⟨by rfl, ?_⟩) hHeld ?_
      rotate_left
      · intro w hSw; (try dsimp only at hSw); go_simp; (try with_reducible rfl)
      try simp only [Act.put, List.setIfInBounds_toArray, List.set_cons_zero, List.set_cons_succ]
      refine wpAnyH_ready (rs := [5]) (by kernel_rfl) (by simp) ?_
      refine AllReadyH.cons (by simp only [List.getElem?_toArray, List.getElem?_cons_succ, List.getElem?_cons_zero]; rfl) (fun kC hkC => ?_) AllReadyH.nil
      go_simp
      refine (rseq_lit 3 1 3 0 4 1 rseq1 _).mono ?_; rintro e w' ⟨rfl, hk1⟩; have h1 := hd.no hk1
      (try go_wp2_with fail)
      refine hkC.out _ _ (⟨⟨h1.tx.c 0 rfl, h1.tx.c 1 rfl, h1.tx.c 2 rfl, h1.tx.c 3 rfl, h1.tx.c 4 rfl⟩, h1.tx.c 29 rfl⟩) (fun hHeld => ?_)
      clear hkC kC
      try simp only [Act.put, List.setIfInBounds_toArray, List.set_cons_zero, List.set_cons_succ]
      refine wpAnyH_ready (rs := [15]) (by kernel_rfl) (by simp) ?_
      refine AllReadyH.cons (by simp only [List.getElem?_toArray, List.getElem?_cons_succ, List.getElem?_cons_zero]; rfl) (fun kC hkC => ?_) AllReadyH.nil
      go_simp
      (try rw [wrap_w]); refine (rswap_tot c u M 1 d.stamp (wrap64 (d.stamp + 1)) _ h1.mm).mono ?_; rw [HSO.out]; rintro e w3 ⟨rfl, hm, hk3⟩; have h3 := h1.mem hm hk3
      (try go_wp2_with fail)
      refine hkC.out _ _ (⟨⟨h3.tx.c 0 rfl, h3.tx.c 1 rfl, h3.tx.c 2 rfl, h3.tx.c 3 rfl, h3.tx.c 4 rfl⟩, h3.tx.c 29 rfl⟩) (fun hHeld => ?_)
      clear hkC kC
      try simp only [Act.put, List.setIfInBounds_toArray, List.set_cons_zero, List.set_cons_succ]
      refine wpAnyH_take (i := 16) (v := ?_) (by simp only [List.getElem?_toArray, List.getElem?_cons_succ, List.getElem?_cons_zero]; rfl) (by kernel_rfl) (by kernel_rfl) (by kernel_rfl) (by exact fun _ _ _ h => h) (Or.inl ⟨by rfl, ?_⟩) hHeld ?_
      rotate_left
      · intro w hSw; (try dsimp only at hSw); go_simp; (try with_reducible rfl)
      try simp only [Act.put, List.setIfInBounds_toArray, List.set_cons_zero, List.set_cons_succ]
      refine wpAnyH_take (i := 17) (v := ?_) (by simp only [List.getElem?_toArray, List.getElem?_cons_succ, List.getElem?_cons_zero]; rfl) (by kernel_rfl) (by kernel_rfl) (by kernel_rfl) (by exact fun _ _ _ h => h) (Or.inl ⟨by rfl, ?_⟩) hHeld ?_
      rotate_left
      · intro w hSw; (try dsimp only at hSw); go_simp; (try with_reducible rfl)
      try simp only [Act.put, List.setIfInBounds_toArray, List.set_cons_zero, List.set_cons_succ]
      refine wpAnyH_take (i := 18) (v := ?_) (by simp only [List.getElem?_toArray, List.getElem?_cons_succ, List.getElem?_cons_zero]; rfl) (by kernel_rfl) (by kernel_rfl) (by kernel_rfl) (by exact fun _ _ _ h => h) (Or.inl ⟨by rfl, ?_⟩) hHeld ?_
      rotate_left
      · intro w hSw; (try dsimp only at hSw); go_simp; (try with_reducible rfl)
      try simp only [Act.put, List.setIfInBounds_toArray, List.set_cons_zero, List.set_cons_succ]
      refine wpAnyH_take (i := 19) (v := ?_) (by simp only [List.getElem?_toArray, List.getElem?_cons_succ, List.getElem?_cons_zero]; rfl) (by kernel_rfl) (by kernel_rfl) (by kernel_rfl) (by exact fun _ _ _ h => h) (Or.inl ⟨by rfl, ?_⟩) hHeld ?_
      rotate_left
      · intro w hSw; (try dsimp only at hSw); go_simp; (try with_reducible rfl)
      try simp only [Act.put, List.setIfInBounds_toArray, List.set_cons_zero, List.set_cons_succ]
      refine wpAnyH_take (i := 20) (v := ?_) (by simp only [List.getElem?_toArray, List.getElem?_cons_succ, List.getElem?_cons_zero]; rfl) (by kernel_rfl) (by kernel_rfl) (by kernel_rfl) (by exact fun _ _ _ h => h) (Or.inl ⟨by rfl, ?_⟩) hHeld ?_
      rotate_left
      · intro w hSw; (try dsimp only at hSw); go_simp; (try with_reducible rfl)
      try simp only [Act.put, List.setIfInBounds_toArray, List.set_cons_zero, List.set_cons_succ]
      refine wpAnyH_take (i := 21) (v := ?_) (by simp only [List.getElem?_toArray, List.getElem?_cons_succ, List.getElem?_cons_zero]; rfl) (by kernel_rfl) (by kernel_rfl) (by kernel_rfl) (by exact fun _ _ _ h => h) (Or.inl ⟨by rfl, ?_⟩) hHeld ?_
      rotate_left
      · intro w hSw; (try dsimp only at hSw); go_simp; (try with_reducible rfl)
      try simp only [Act.put, List.setIfInBounds_toArray, List.set_cons_zero, List.set_cons_succ]
      refine wpAnyH_take (i := 22) (v := ?_) (by simp only [List.getElem?_toArray, List.getElem?_cons_succ, List.getElem?_cons_zero]; rfl) (by kernel_rfl) (by kernel_rfl) (by kernel_rfl) (by exact fun _ _ _ h => h) (Or.inl ⟨by rfl, ?_⟩) hHeld ?_
      rotate_left
      · intro w hSw; (try dsimp only at hSw); go_simp; (try with_reducible rfl)
      try simp only [Act.put, List.setIfInBounds_toArray, List.set_cons_zero, List.set_cons_succ]
      refine wpAnyH_done (by kernel_rfl) ?_ _
      have k3 : Keeps (fun g => dxO Y rv wv g ∨ own2m c u g) w w3 := ((Keeps.refl NoS w).drew.trans hk1).no.trans (kM hk3)
      clear hm hk1 hk3 h1 hd hHeld
      have c22 := h3.tx.c 22 (u := .int .i64 d.look) rfl
      have f22 := h3.tx.f 22
      have hl := h3.tx.lt
      go_wp2_with fail
      go_ret
      rw [HR.out]
      exact ⟨rfl, (h3.set 22 (.int .i64 1) (d' := { d with look := 1 }) rfl rfl rfl).kp (k3.trans (kY (keepsY w3 Y 22 (.int .i64 1))))⟩
set_option maxHeartbeats 4000000 in
set_option maxRecDepth 100000 in
theorem dwrite_any {w : World} {c Y : Nat} {u rv wv : Value} {M : MemS} {d : DxS} (h : DX w c u M Y rv wv d) (hp : (d.state = 6 ∧ 0 ≤ d.i ∧ d.i < (d.W.length : Int)) ∨ d.state = 7 ∨ d.state = 8) (hwl : d.W.length ≤ 32) : Calls Tryz.prog 118 #[.pointer (some ⟨Y, 0, none⟩), .pointer (some ⟨c, 0, none⟩)] w fun e w' => e = .returned (.int .i64 (writesD M d).2.2) ∧ DXP w w' c u (writesD M d).1 Y rv wv (writesD M d).2.1 := by
  have hl := h.tx.lt
  by_cases p6 : d.state = 6
  · obtain ⟨hi0, hi1⟩ : 0 ≤ d.i ∧ d.i < (d.W.length : Int) := by
      rcases hp with ⟨_, a, b⟩ | e | e
      · exact ⟨a, b⟩
      · omega
      · omega
    obtain ⟨k, hk⟩ := Int.eq_ofNat_of_zero_le hi0
    have hkn : d.i.toNat = k := by rw [hk]; rfl
    have hkl : k < d.W.length := by omega
    obtain ⟨oa, hoa⟩ : ∃ z, (d.W.getD k (0, 0)).1 = z := ⟨_, rfl⟩
    obtain ⟨ov, hov⟩ : ∃ z, (d.W.getD k (0, 0)).2 = z := ⟨_, rfl⟩
    have hrr : writesD M d = (M.storeI oa ov, (if (k : Int) + 1 = (d.W.length : Int) then { d with state := 7, i := 0 } else { d with i := (k : Int) + 1 }, 0)) := by unfold writesD; rw [if_pos p6, hkn, hoa, hov, hk]
    have HK := Lib.hid hk
    have HP := Lib.hid p6
    have hMo : ∀ (w' : World) (M' : MemS), DX w' c u M' Y rv wv d → ∃ g cap, wv = .slice (some ⟨g, 0, none⟩) d.W.length cap ∧ w'.cell? ⟨g, k * 2, none⟩ = some (.int .i64 oa) ∧ w'.cell? ⟨g, k * 2 + 1, none⟩ = some (.int .i64 ov) := by
      intro w' M' hw'
      rcases owns_words hw'.tx.ws with ⟨_, hr0⟩ | ⟨g2, cap2, hv2, _, _, hc⟩
      · rw [hr0] at hkl; simp at hkl
      · exact ⟨g2, cap2, hv2, by rw [← hoa]; exact (hc k hkl).1, by rw [← hov]; exact (hc k hkl).2⟩
    obtain ⟨g, cap, hgv, _, _⟩ := hMo _ _ h
    have HC := Lib.hid (show ∀ (w' : World) (M' : MemS), DX w' c u M' Y rv wv d → w'.cell? ⟨g, k * 2, none⟩ = some (.int .i64 oa) ∧ w'.cell? ⟨g, k * 2 + 1, none⟩ = some (.int .i64 ov) from fun w' M' hw' => by
      obtain ⟨g2, cap2, hv2, q1, q2⟩ := hMo w' M' hw'
      rw [hgv] at hv2
      injection hv2 with e1 e2 e3
      injection e1 with e1
      injection e1 with e1
      subst e1
      exact ⟨q1, q2⟩)
    have HGV := Lib.hid hgv
    have hk0 : (0 : Int) ≤ (k : Int) := by omega
    have hk1' : (k : Int) < (d.W.length : Int) := by omega
    obtain ⟨n, hn⟩ : ∃ n, d.W.length = n := ⟨_, rfl⟩
    have HKW := Lib.hid (show wrap64 ((k : Int) + 1) = (k : Int) + 1 from wrap64_id (by omega) (by omega))
    have c20 := h.tx.c 20 (u := .int .i64 6) (by rw [← p6]; rfl)
    clear p6 hp hi0 hi1 hkn hoa hov hMo hgv hk
    rw [hn] at hrr hk1' hkl
    have HN := Lib.hid hn
    clear hn
    go_enter Tryz.func118, Tryz.ntmps118
    go_upto_region 3 with fail
    have hd := h.no ((Keeps.refl NoS w).drew)
    clear c20 hl
    refine wp_region_held_drew (S := (fun w' => (w'.cell? ⟨Y, 0, none⟩ = some (.int .i64 3) ∧ w'.cell? ⟨Y, 1, none⟩ = some (.int .i64 1) ∧ w'.cell? ⟨Y, 2, none⟩ = some (.int .i64 3) ∧ w'.cell? ⟨Y, 3, none⟩ = some (.int .i64 0) ∧ w'.cell? ⟨Y, 4, none⟩ = some (.int .i64 4)) ∧ w'.cell? ⟨Y, 13, none⟩ = some (.slice (some ⟨g, 0, none⟩) n cap) ∧ w'.cell? ⟨Y, 21, none⟩ = some (.int .i64 (k : Int)) ∧ w'.cell? ⟨g, k * 2, none⟩ = some (.int .i64 oa) ∧ w'.cell? ⟨g, k * 2 + 1, none⟩ = some (.int .i64 ov))) (by kernel_rfl) (⟨⟨hd.tx.c 0 rfl, hd.tx.c 1 rfl, hd.tx.c 2 rfl, hd.tx.c 3 rfl, hd.tx.c 4 rfl⟩, hd.tx.c 13 (by rw [← HN.out, ← HGV.out]; rfl), hd.tx.c 21 (by rw [← HK.out]; rfl), (HC.out _ _ hd).1, (HC.out _ _ hd).2⟩) (fun hHeld => ?_)
    refine wpAnyH_take (i := 0) (v := ?_) (by simp only [List.getElem?_toArray, List.getElem?_cons_succ, List.getElem?_cons_zero]; rfl) (by kernel_rfl) (by kernel_rfl) (by kernel_rfl) (by exact fun _ _ _ h => h) (Or.inl ⟨by rfl, ?_⟩) hHeld ?_
    rotate_left
    · intro w hSw; (try dsimp only at hSw); go_simp; (try with_reducible rfl)
    try simp only [Act.put, List.setIfInBounds_toArray, List.set_cons_zero, List.set_cons_succ]
    refine wpAnyH_take (i := 1) (v := ?_) (by simp only [List.getElem?_toArray, List.getElem?_cons_succ, List.getElem?_cons_zero]; rfl) (by kernel_rfl) (by kernel_rfl) (by kernel_rfl) (by exact fun _ _ _ h => h) (Or.inl ⟨by rfl, ?_⟩) hHeld ?_
    rotate_left
    · intro w hSw; (try dsimp only at hSw); go_simp; (try with_reducible rfl)
    try simp only [Act.put, List.setIfInBounds_toArray, List.set_cons_zero, List.set_cons_succ]
    refine wpAnyH_take (i := 2) (v := ?_) (by simp only [List.getElem?_toArray, List.getElem?_cons_succ, List.getElem?_cons_zero]; rfl) (by kernel_rfl) (by kernel_rfl) (by kernel_rfl) (by exact fun _ _ _ h => h) (Or.inl ⟨by rfl, ?_⟩) hHeld ?_
    rotate_left
    · intro w hSw; (try dsimp only at hSw); go_simp; (try with_reducible rfl)
    try simp only [Act.put, List.setIfInBounds_toArray, List.set_cons_zero, List.set_cons_succ]
    refine wpAnyH_take (i := 3) (v := ?_) (by simp only [List.getElem?_toArray, List.getElem?_cons_succ, List.getElem?_cons_zero]; rfl) (by kernel_rfl) (by kernel_rfl) (by kernel_rfl) (by exact fun _ _ _ h => h) (Or.inl ⟨by rfl, ?_⟩) hHeld ?_
    rotate_left
    · intro w hSw; (try dsimp only at hSw); go_simp; (try with_reducible rfl)
    try simp only [Act.put, List.setIfInBounds_toArray, List.set_cons_zero, List.set_cons_succ]
    refine wpAnyH_take (i := 4) (v := ?_) (by simp only [List.getElem?_toArray, List.getElem?_cons_succ, List.getElem?_cons_zero]; rfl) (by kernel_rfl) (by kernel_rfl) (by kernel_rfl) (by exact fun _ _ _ h => h) (Or.inl ⟨by rfl, ?_⟩) hHeld ?_
    rotate_left
    · intro w hSw; (try dsimp only at hSw); go_simp; (try with_reducible rfl)
    try simp only [Act.put, List.setIfInBounds_toArray, List.set_cons_zero, List.set_cons_succ]
    refine wpAnyH_take (i := 5) (v := ?_) (by simp only [List.getElem?_toArray, List.getElem?_cons_succ, List.getElem?_cons_zero]; rfl) (by kernel_rfl) (by kernel_rfl) (by kernel_rfl) (by exact fun _ _ _ h => h) (Or.inl ⟨by rfl, ?_⟩) hHeld ?_
    rotate_left
    · intro w hSw; (try dsimp only at hSw); go_simp; (try with_reducible rfl)
    try simp only [Act.put, List.setIfInBounds_toArray, List.set_cons_zero, List.set_cons_succ]
    refine wpAnyH_take (i := 6) (v := ?_) (by simp only [List.getElem?_toArray, List.getElem?_cons_succ, List.getElem?_cons_zero]; rfl) (by kernel_rfl) (by kernel_rfl) (by kernel_rfl) (by exact fun _ _ _ h => h) (Or.inl ⟨by rfl, ?_⟩) hHeld ?_
    rotate_left
    · intro w hSw; (try dsimp only at hSw); go_simp; (try with_reducible rfl)
    try simp only [Act.put, List.setIfInBounds_toArray, List.set_cons_zero, List.set_cons_succ]
    refine wpAnyH_take (i := 7) (v := ?_) (by simp only [List.getElem?_toArray, List.getElem?_cons_succ, List.getElem?_cons_zero]; rfl) (by kernel_rfl) (by kernel_rfl) (by kernel_rfl) (by exact fun _ _ _ h => h) (Or.inl ⟨by rfl, ?_⟩) hHeld ?_
    rotate_left
    · intro w hSw; (try dsimp only at hSw); go_simp; (try with_reducible rfl)
    try simp only [Act.put, List.setIfInBounds_toArray, List.set_cons_zero, List.set_cons_succ]
    refine wpAnyH_take (i := 8) (v := ?_) (by simp only [List.getElem?_toArray, List.getElem?_cons_succ, List.getElem?_cons_zero]; rfl) (by kernel_rfl) (by kernel_rfl) (by kernel_rfl) (by exact fun _ _ _ h => h) (Or.inl ⟨by rfl, ?_⟩) hHeld ?_
    rotate_left
    · intro w hSw; (try dsimp only at hSw); go_simp; (try with_reducible rfl)
    try simp only [Act.put, List.setIfInBounds_toArray, List.set_cons_zero, List.set_cons_succ]
    refine wpAnyH_take (i := 9) (v := ?_) (by simp only [List.getElem?_toArray, List.getElem?_cons_succ, List.getElem?_cons_zero]; rfl) (by kernel_rfl) (by kernel_rfl) (by kernel_rfl) (by exact fun _ _ _ h => h) (Or.inl ⟨by rfl, ?_⟩) hHeld ?_
    rotate_left
    · intro w hSw; (try dsimp only at hSw); go_simp; (try with_reducible rfl)
    try simp only [Act.put, List.setIfInBounds_toArray, List.set_cons_zero, List.set_cons_succ]
    refine wpAnyH_take (i := 10) (v := ?_) (by simp only [List.getElem?_toArray, List.getElem?_cons_succ, List.getElem?_cons_zero]; rfl) (by kernel_rfl) (by kernel_rfl) (by kernel_rfl) (by exact fun _ _ _ h => h) (Or.inl ⟨by rfl, ?_⟩) hHeld ?_
    rotate_left
    · intro w hSw; (try dsimp only at hSw); go_simp; (try with_reducible rfl)
    try simp only [Act.put, List.setIfInBounds_toArray, List.set_cons_zero, List.set_cons_succ]
    refine wpAnyH_take (i := 11) (v := ?_) (by simp only [List.getElem?_toArray, List.getElem?_cons_succ, List.getElem?_cons_zero]; rfl) (by kernel_rfl) (by kernel_rfl) (by kernel_rfl) (by exact fun _ _ _ h => h) (Or.inl ⟨by rfl, ?_⟩) hHeld ?_
    rotate_left
    · intro w hSw; (try dsimp only at hSw); go_simp; (try with_reducible rfl)
    try simp only [Act.put, List.setIfInBounds_toArray, List.set_cons_zero, List.set_cons_succ]
    refine wpAnyH_take (i := 12) (v := ?_) (by simp only [List.getElem?_toArray, List.getElem?_cons_succ, List.getElem?_cons_zero]; rfl) (by kernel_rfl) (by kernel_rfl) (by kernel_rfl) (by exact fun _ _ _ h => h) (Or.inl ⟨by rfl, ?_⟩) hHeld ?_
    rotate_left
    · intro w hSw; (try dsimp only at hSw); go_simp; (try with_reducible rfl)
    try simp only [Act.put, List.setIfInBounds_toArray, List.set_cons_zero, List.set_cons_succ]
    refine wpAnyH_take (i := 13) (v := ?_) (by simp only [List.getElem?_toArray, List.getElem?_cons_succ, List.getElem?_cons_zero]; rfl) (by kernel_rfl) (by kernel_rfl) (by kernel_rfl) (by exact fun _ _ _ h => h) (Or.inl ⟨by rfl, ?_⟩) hHeld ?_
    rotate_left
    · intro w hSw; (try dsimp only at hSw); go_simp; (try with_reducible rfl)
    try simp only [Act.put, List.setIfInBounds_toArray, List.set_cons_zero, List.set_cons_succ]
    refine wpAnyH_take (i := 14) (v := ?_) (by simp only [List.getElem?_toArray, List.getElem?_cons_succ, List.getElem?_cons_zero]; rfl) (by kernel_rfl) (by kernel_rfl) (by kernel_rfl) (by exact fun _ _ _ h => h) (Or.inl ⟨by rfl, ?_⟩) hHeld ?_
    rotate_left
    · intro w hSw; (try dsimp only at hSw); go_simp; (try with_reducible rfl)
    try simp only [Act.put, List.setIfInBounds_toArray, List.set_cons_zero, List.set_cons_succ]
    refine wpAnyH_take (i := 15) (v := ?_) (by simp only [List.getElem?_toArray, List.getElem?_cons_succ, List.getElem?_cons_zero]; rfl) (by kernel_rfl) (by kernel_rfl) (by kernel_rfl) (by exact fun _ _ _ h => h) (Or.inl ⟨by rfl, ?_⟩) hHeld ?_
    rotate_left
    · intro w hSw; (try dsimp only at hSw); go_simp; (try with_reducible rfl)
    try simp only [Act.put, List.setIfInBounds_toArray, List.set_cons_zero, List.set_cons_succ]
    refine wpAnyH_take (i := 16) (v := ?_) (by simp only [List.getElem?_toArray, List.getElem?_cons_succ, List.getElem?_cons_zero]; rfl) (by kernel_rfl) (by kernel_rfl) (by kernel_rfl) (by exact fun _ _ _ h => h) (Or.inl ⟨by rfl, ?_⟩) hHeld ?_
    rotate_left
    · intro w hSw; (try dsimp only at hSw); go_simp; (try with_reducible rfl)
    try simp only [Act.put, List.setIfInBounds_toArray, List.set_cons_zero, List.set_cons_succ]
    refine wpAnyH_take (i := 17) (v := ?_) (by simp only [List.getElem?_toArray, List.getElem?_cons_succ, List.getElem?_cons_zero]; rfl) (by kernel_rfl) (by kernel_rfl) (by kernel_rfl) (by exact fun _ _ _ h => h) (Or.inl ⟨by rfl, ?_⟩) hHeld ?_
    rotate_left
    · intro w hSw; (try dsimp only at hSw); go_simp; (try with_reducible rfl)
    try simp only [Act.put, List.setIfInBounds_toArray, List.set_cons_zero, List.set_cons_succ]
    refine wpAnyH_take (i := 18) (v := ?_) (by simp only [List.getElem?_toArray, List.getElem?_cons_succ, List.getElem?_cons_zero]; rfl) (by kernel_rfl) (by kernel_rfl) (by kernel_rfl) (by exact fun _ _ _ h => h) (Or.inl ⟨by rfl, ?_⟩) hHeld ?_
    rotate_left
    · intro w hSw; (try dsimp only at hSw); go_simp; (try with_reducible rfl)
    try simp only [Act.put, List.setIfInBounds_toArray, List.set_cons_zero, List.set_cons_succ]
    refine wpAnyH_take (i := 19) (v := ?_) (by simp only [List.getElem?_toArray, List.getElem?_cons_succ, List.getElem?_cons_zero]; rfl) (by kernel_rfl) (by kernel_rfl) (by kernel_rfl) (by exact fun _ _ _ h => h) (Or.inl ⟨by rfl, ?_⟩) hHeld ?_
    rotate_left
    · intro w hSw; (try dsimp only at hSw); go_simp; (try with_reducible rfl)
    try simp only [Act.put, List.setIfInBounds_toArray, List.set_cons_zero, List.set_cons_succ]
    refine wpAnyH_take (i := 20) (v := ?_) (by simp only [List.getElem?_toArray, List.getElem?_cons_succ, List.getElem?_cons_zero]; rfl) (by kernel_rfl) (by kernel_rfl) (by kernel_rfl) (by exact fun _ _ _ h => h) (Or.inl ⟨by rfl, ?_⟩) hHeld ?_
    rotate_left
    · intro w hSw; (try dsimp only at hSw); go_simp; (try with_reducible rfl)
    try simp only [Act.put, List.setIfInBounds_toArray, List.set_cons_zero, List.set_cons_succ]
    refine wpAnyH_take (i := 21) (v := ?_) (by simp only [List.getElem?_toArray, List.getElem?_cons_succ, List.getElem?_cons_zero]; rfl) (by kernel_rfl) (by kernel_rfl) (by kernel_rfl) (by exact fun _ _ _ h => h) (Or.inl ⟨by rfl, ?_⟩) hHeld ?_
    rotate_left
    · intro w hSw; (try dsimp only at hSw); go_simp; (try with_reducible rfl)
    try simp only [Act.put, List.setIfInBounds_toArray, List.set_cons_zero, List.set_cons_succ]
    refine wpAnyH_take (i := 22) (v := ?_) (by simp only [List.getElem?_toArray, List.getElem?_cons_succ, List.getElem?_cons_zero]; rfl) (by kernel_rfl) (by kernel_rfl) (by kernel_rfl) (by exact fun _ _ _ h => h) (Or.inl ⟨by rfl, ?_⟩) hHeld ?_
    rotate_left
    · intro w hSw; (try dsimp only at hSw); go_simp; (try with_reducible rfl)
    try simp only [Act.put, List.setIfInBounds_toArray, List.set_cons_zero, List.set_cons_succ]
    refine wpAnyH_take (i := 23) (v := ?_) (by simp only [List.getElem?_toArray, List.getElem?_cons_succ, List.getElem?_cons_zero]; rfl) (by kernel_rfl) (by kernel_rfl) (by kernel_rfl) (by exact fun _ _ _ h => h) (Or.inl ⟨by rfl, ?_⟩) hHeld ?_
    rotate_left
    · intro w hSw; (try dsimp only at hSw); go_simp; (try with_reducible rfl)
    try simp only [Act.put, List.setIfInBounds_toArray, List.set_cons_zero, List.set_cons_succ]
    refine wpAnyH_take (i := 24) (v := ?_) (by simp only [List.getElem?_toArray, List.getElem?_cons_succ, List.getElem?_cons_zero]; rfl) (by kernel_rfl) (by kernel_rfl) (by kernel_rfl) (by exact fun _ _ _ h => h) (Or.inl ⟨by rfl, ?_⟩) hHeld ?_
    rotate_left
    · intro w hSw; (try dsimp only at hSw); go_simp; (try with_reducible rfl)
    try simp only [Act.put, List.setIfInBounds_toArray, List.set_cons_zero, List.set_cons_succ]
    refine wpAnyH_ready (rs := [25]) (by kernel_rfl) (by simp) ?_
    refine AllReadyH.cons (by simp only [List.getElem?_toArray, List.getElem?_cons_succ, List.getElem?_cons_zero]; rfl) (fun kC hkC => ?_) AllReadyH.nil
    go_simp
    (try rw [wrap_w]); refine (rstore_tot c u M oa ov _ hd.mm).mono ?_; rintro e w' ⟨rfl, hm, hk3⟩; have h3 := hd.mem hm hk3
    (try go_wp2_with fail)
    refine hkC.out _ _ (⟨⟨h3.tx.c 0 rfl, h3.tx.c 1 rfl, h3.tx.c 2 rfl, h3.tx.c 3 rfl, h3.tx.c 4 rfl⟩, h3.tx.c 13 (by rw [← HN.out, ← HGV.out]; rfl), h3.tx.c 21 (by rw [← HK.out]; rfl), (HC.out _ _ h3).1, (HC.out _ _ h3).2⟩) (fun hHeld => ?_)
    clear hkC kC
    try simp only [Act.put, List.setIfInBounds_toArray, List.set_cons_zero, List.set_cons_succ]
    refine wpAnyH_done (by kernel_rfl) ?_ _
    have k3 := ((Keeps.refl NoS w).drew).no.trans (kM (rv := rv) (wv := wv) (Y := Y) hk3)
    clear hm hk3 hd hHeld
    rename_i w3
    have c21 := h3.tx.c 21 (u := .int .i64 (k : Int)) (by rw [← HK.out]; rfl)
    have f21 := h3.tx.f 21
    have hl := h3.tx.lt
    have h4 := h3.set 21 (.int .i64 ((k : Int) + 1)) (d' := { d with i := (k : Int) + 1 }) rfl rfl rfl
    have k4 := k3.trans (kY (rv := rv) (wv := wv) (c := c) (u := u) (keepsY _ Y 21 (.int .i64 ((k : Int) + 1))))
    go_upto_region 5 with fail
    rw [HKW.out]
    generalize World.setCell _ ⟨Y, 21, none⟩ (.int .i64 ((k : Int) + 1)) = w4 at *
    clear c21 f21 hl h3 k3
    have c21 := h4.tx.c 21 (u := .int .i64 ((k : Int) + 1)) rfl
    have c13 := h4.tx.c 13 (u := .slice (some ⟨g, 0, none⟩) n cap) (by rw [← HN.out, ← HGV.out]; rfl)
    by_cases q2 : (k : Int) + 1 = (n : Int)
    · have HRR := Lib.hid (show writesD M d = (M.storeI oa ov, ({ d with state := 7, i := 0 }, 0)) by rw [hrr, if_pos q2])
      have e1 : ((k : Int) + 1 == (n : Int)) = true := by simpa using q2
      clear q2 hrr
      go_quiet (fail)
      go_upto_region 6 with fail
      have h5 := h4.no ((Keeps.refl NoS w4).drewN nq)
      have k5 := k4.drewN nq
      generalize w4.drewN nq = w5 at *
      clear c21 c13 h4 k4
      have c20 := h5.tx.c 20 (u := .int .i64 d.state) rfl
      have c21 := h5.tx.c 21 (u := .int .i64 ((k : Int) + 1)) rfl
      have f20 := h5.tx.f 20; have f21 := h5.tx.f 21
      have hl := h5.tx.lt
      go_wp2_with fail
      go_ret
      rw [HRR.out]
      exact ⟨rfl, ((h5.set 20 (.int .i64 7) (d' := { d with state := 7, i := (k : Int) + 1 }) rfl rfl rfl).set 21 (.int .i64 0) (d' := { d with state := 7, i := 0 }) rfl rfl rfl).kp (k5.trans (kY ((keepsY w5 Y 20 (.int .i64 7)).trans (keepsY _ Y 21 (.int .i64 0)))))⟩
    · have HRR := Lib.hid (show writesD M d = (M.storeI oa ov, ({ d with i := (k : Int) + 1 }, 0)) by rw [hrr, if_neg q2])
      have e1 : ((k : Int) + 1 == (n : Int)) = false := by simpa using q2
      clear q2 hrr
      go_quiet (fail)
      go_wp2_with fail
      go_ret
      rw [HRR.out]
      exact ⟨rfl, (h4.no ((Keeps.refl NoS _).drewN _)).kp (k4.drewN _)⟩
  by_cases p7 : d.state = 7
  · have HRR := Lib.hid (show writesD M d = (M.storeI 1 d.made, ({ d with state := 8 }, 0)) by unfold writesD; rw [if_neg p6, if_pos p7])
    have c20 := h.tx.c 20 (u := .int .i64 7) (by rw [← p7]; rfl)
    have c5 := h.tx.c 5 (u := .bool true) rfl
    clear p6 p7 hp
    go_enter Tryz.func118, Tryz.ntmps118
    go_upto_region 10 with fail
    have hd := h.no ((Keeps.refl NoS w).drew)
    clear c20 c5 hl
    refine wp_region_held_drew (S := (fun w' => (w'.cell? ⟨Y, 0, none⟩ = some (.int .i64 3) ∧ w'.cell? ⟨Y, 1, none⟩ = some (.int .i64 1) ∧ w'.cell? ⟨Y, 2, none⟩ = some (.int .i64 3) ∧ w'.cell? ⟨Y, 3, none⟩ = some (.int .i64 0) ∧ w'.cell? ⟨Y, 4, none⟩ = some (.int .i64 4)) ∧ w'.cell? ⟨Y, 30, none⟩ = some (.int .i64 d.made))) (by kernel_rfl) (⟨⟨hd.tx.c 0 rfl, hd.tx.c 1 rfl, hd.tx.c 2 rfl, hd.tx.c 3 rfl, hd.tx.c 4 rfl⟩, hd.tx.c 30 rfl⟩) (fun hHeld => ?_)
    refine wpAnyH_take (i := 0) (v := ?_) (by simp only [List.getElem?_toArray, List.getElem?_cons_succ, List.getElem?_cons_zero]; rfl) (by kernel_rfl) (by kernel_rfl) (by kernel_rfl) (by exact fun _ _ _ h => h) (Or.inl ⟨by rfl, ?_⟩) hHeld ?_
    rotate_left
    · intro w hSw; (try dsimp only at hSw); go_simp; (try with_reducible rfl)
    try simp only [Act.put, List.setIfInBounds_toArray, List.set_cons_zero, List.set_cons_succ]
    refine wpAnyH_take (i := 1) (v := ?_) (by simp only [List.getElem?_toArray, List.getElem?_cons_succ, List.getElem?_cons_zero]; rfl) (by kernel_rfl) (by kernel_rfl) (by kernel_rfl) (by exact fun _ _ _ h => h) (Or.inl ⟨by rfl, ?_⟩) hHeld ?_
    rotate_left
    · intro w hSw; (try dsimp only at hSw); go_simp; (try with_reducible rfl)
    try simp only [Act.put, List.setIfInBounds_toArray, List.set_cons_zero, List.set_cons_succ]
    refine wpAnyH_take (i := 2) (v := ?_) (by simp only [List.getElem?_toArray, List.getElem?_cons_succ, List.getElem?_cons_zero]; rfl) (by kernel_rfl) (by kernel_rfl) (by kernel_rfl) (by exact fun _ _ _ h => h) (Or.inl ⟨by rfl, ?_⟩) hHeld ?_
    rotate_left
    · intro w hSw; (try dsimp only at hSw); go_simp; (try with_reducible rfl)
    try simp only [Act.put, List.setIfInBounds_toArray, List.set_cons_zero, List.set_cons_succ]
    refine wpAnyH_take (i := 3) (v := ?_) (by simp only [List.getElem?_toArray, List.getElem?_cons_succ, List.getElem?_cons_zero]; rfl) (by kernel_rfl) (by kernel_rfl) (by kernel_rfl) (by exact fun _ _ _ h => h) (Or.inl ⟨by rfl, ?_⟩) hHeld ?_
    rotate_left
    · intro w hSw; (try dsimp only at hSw); go_simp; (try with_reducible rfl)
    try simp only [Act.put, List.setIfInBounds_toArray, List.set_cons_zero, List.set_cons_succ]
    refine wpAnyH_take (i := 4) (v := ?_) (by simp only [List.getElem?_toArray, List.getElem?_cons_succ, List.getElem?_cons_zero]; rfl) (by kernel_rfl) (by kernel_rfl) (by kernel_rfl) (by exact fun _ _ _ h => h) (Or.inl ⟨by rfl, ?_⟩) hHeld ?_
    rotate_left
    · intro w hSw; (try dsimp only at hSw); go_simp; (try with_reducible rfl)
    try simp only [Act.put, List.setIfInBounds_toArray, List.set_cons_zero, List.set_cons_succ]
    refine wpAnyH_take (i := 6) (v := ?_) (by simp only [List.getElem?_toArray, List.getElem?_cons_succ, List.getElem?_cons_zero]; rfl) (by kernel_rfl) (by kernel_rfl) (by kernel_rfl) (by exact fun _ _ _ h => h) (Or.inl ⟨by rfl, ?_⟩) hHeld ?_
    rotate_left
    · intro w hSw; (try dsimp only at hSw); go_simp; (try with_reducible rfl)
    try simp only [Act.put, List.setIfInBounds_toArray, List.set_cons_zero, List.set_cons_succ]
    refine wpAnyH_take (i := 7) (v := ?_) (by simp only [List.getElem?_toArray, List.getElem?_cons_succ, List.getElem?_cons_zero]; rfl) (by kernel_rfl) (by kernel_rfl) (by kernel_rfl) (by exact fun _ _ _ h => h) (Or.inl ⟨by rfl, ?_⟩) hHeld ?_
    rotate_left
    · intro w hSw; (try dsimp only at hSw); go_simp; (try with_reducible rfl)
    try simp only [Act.put, List.setIfInBounds_toArray, List.set_cons_zero, List.set_cons_succ]
    refine wpAnyH_take (i := 8) (v := ?_) (by simp only [List.getElem?_toArray, List.getElem?_cons_succ, List.getElem?_cons_zero]; rfl) (by kernel_rfl) (by kernel_rfl) (by kernel_rfl) (by exact fun _ _ _ h => h) (Or.inl ⟨by rfl, ?_⟩) hHeld ?_
    rotate_left
    · intro w hSw; (try dsimp only at hSw); go_simp; (try with_reducible rfl)
    try simp only [Act.put, List.setIfInBounds_toArray, List.set_cons_zero, List.set_cons_succ]
    refine wpAnyH_take (i := 9) (v := ?_) (by simp only [List.getElem?_toArray, List.getElem?_cons_succ, List.getElem?_cons_zero]; rfl) (by kernel_rfl) (by kernel_rfl) (by kernel_rfl) (by exact fun _ _ _ h => h) (Or.inl ⟨by rfl, ?_⟩) hHeld ?_
    rotate_left
    · intro w hSw; (try dsimp only at hSw); go_simp; (try with_reducible rfl)
    try simp only [Act.put, List.setIfInBounds_toArray, List.set_cons_zero, List.set_cons_succ]
    refine wpAnyH_ready (rs := [5]) (by kernel_rfl) (by simp) ?_
    refine AllReadyH.cons (by simp only [List.getElem?_toArray, List.getElem?_cons_succ, List.getElem?_cons_zero]; rfl) (fun kC hkC => ?_) AllReadyH.nil
    go_simp
    refine (rseq_lit 3 1 3 0 4 1 rseq1 _).mono ?_; rintro e w' ⟨rfl, hk1⟩; have h1 := hd.no hk1
    (try go_wp2_with fail)
    refine hkC.out _ _ (⟨⟨h1.tx.c 0 rfl, h1.tx.c 1 rfl, h1.tx.c 2 rfl, h1.tx.c 3 rfl, h1.tx.c 4 rfl⟩, h1.tx.c 30 rfl⟩) (fun hHeld => ?_)
    clear hkC kC
    try simp only [Act.put, List.setIfInBounds_toArray, List.set_cons_zero, List.set_cons_succ]
    refine wpAnyH_ready (rs := [10]) (by kernel_rfl) (by simp) ?_
    refine AllReadyH.cons (by simp only [List.getElem?_toArray, List.getElem?_cons_succ, List.getElem?_cons_zero]; rfl) (fun kC hkC => ?_) AllReadyH.nil
    go_simp
    (try rw [wrap_w]); refine (rstore_tot c u M 1 d.made _ h1.mm).mono ?_; rintro e w' ⟨rfl, hm, hk3⟩; have h3 := h1.mem hm hk3
    (try go_wp2_with fail)
    refine hkC.out _ _ (⟨⟨h3.tx.c 0 rfl, h3.tx.c 1 rfl, h3.tx.c 2 rfl, h3.tx.c 3 rfl, h3.tx.c 4 rfl⟩, h3.tx.c 30 rfl⟩) (fun hHeld => ?_)
    clear hkC kC
    try simp only [Act.put, List.setIfInBounds_toArray, List.set_cons_zero, List.set_cons_succ]
    refine wpAnyH_done (by kernel_rfl) ?_ _
    have k3 := ((Keeps.refl NoS w).drew.trans hk1).no.trans (kM (rv := rv) (wv := wv) (Y := Y) hk3)
    clear hm hk1 hk3 h1 hd hHeld
    have c20 := h3.tx.c 20 (u := .int .i64 d.state) rfl
    have f20 := h3.tx.f 20
    have hl := h3.tx.lt
    go_wp2_with fail
    go_ret
    rw [HRR.out]
    exact ⟨rfl, (h3.set 20 (.int .i64 8) (d' := { d with state := 8 }) rfl rfl rfl).kp (k3.trans (kY (keepsY _ Y 20 (.int .i64 8))))⟩
  have p8 : d.state = 8 := by rcases hp with ⟨e, _⟩ | e | e <;> omega
  have hrr : writesD M d = (M.storeI (phD d) 0, (endD { d with stamp := if (0 : Int) < d.W.length then d.made else d.stamp, alive := false }, 1)) := by unfold writesD; rw [if_neg p6, if_neg p7]
  have c20 := h.tx.c 20 (u := .int .i64 8) (by rw [← p8]; rfl)
  have HPH := Lib.hid (show threadP ⟨3, 1, 3, 0, 4⟩ d.th 0 = phD d from rfl)
  clear p6 p7 p8 hp
  go_enter Tryz.func118, Tryz.ntmps118
  go_upto_region 18 with fail
  have hd := h.no ((Keeps.refl NoS w).drew)
  clear c20 hl
  refine wp_region_held_drew (S := (fun w' => (w'.cell? ⟨Y, 0, none⟩ = some (.int .i64 3) ∧ w'.cell? ⟨Y, 1, none⟩ = some (.int .i64 1) ∧ w'.cell? ⟨Y, 2, none⟩ = some (.int .i64 3) ∧ w'.cell? ⟨Y, 3, none⟩ = some (.int .i64 0) ∧ w'.cell? ⟨Y, 4, none⟩ = some (.int .i64 4)) ∧ w'.cell? ⟨Y, 6, none⟩ = some (.int .i64 d.th))) (by kernel_rfl) (⟨⟨hd.tx.c 0 rfl, hd.tx.c 1 rfl, hd.tx.c 2 rfl, hd.tx.c 3 rfl, hd.tx.c 4 rfl⟩, hd.tx.c 6 rfl⟩) (fun hHeld => ?_)
  refine wpAnyH_take (i := 0) (v := ?_) (by simp only [List.getElem?_toArray, List.getElem?_cons_succ, List.getElem?_cons_zero]; rfl) (by kernel_rfl) (by kernel_rfl) (by kernel_rfl) (by exact fun _ _ _ h => h) (Or.inl ⟨by rfl, ?_⟩) hHeld ?_
  rotate_left
  · intro w hSw; (try dsimp only at hSw); go_simp; (try with_reducible rfl)
  try simp only [Act.put, List.setIfInBounds_toArray, List.set_cons_zero, List.set_cons_succ]
  refine wpAnyH_take (i := 1) (v := ?_) (by simp only [List.getElem?_toArray, List.getElem?_cons_succ, List.getElem?_cons_zero]; rfl) (by kernel_rfl) (by kernel_rfl) (by kernel_rfl) (by exact fun _ _ _ h => h) (Or.inl ⟨by rfl, ?_⟩) hHeld ?_
  rotate_left
  · intro w hSw; (try dsimp only at hSw); go_simp; (try with_reducible rfl)
  try simp only [Act.put, List.setIfInBounds_toArray, List.set_cons_zero, List.set_cons_succ]
  refine wpAnyH_take (i := 2) (v := ?_) (by simp only [List.getElem?_toArray, List.getElem?_cons_succ, List.getElem?_cons_zero]; rfl) (by kernel_rfl) (by kernel_rfl) (by kernel_rfl) (by exact fun _ _ _ h => h) (Or.inl ⟨by rfl, ?_⟩) hHeld ?_
  rotate_left
  · intro w hSw; (try dsimp only at hSw); go_simp; (try with_reducible rfl)
  try simp only [Act.put, List.setIfInBounds_toArray, List.set_cons_zero, List.set_cons_succ]
  refine wpAnyH_take (i := 3) (v := ?_) (by simp only [List.getElem?_toArray, List.getElem?_cons_succ, List.getElem?_cons_zero]; rfl) (by kernel_rfl) (by kernel_rfl) (by kernel_rfl) (by exact fun _ _ _ h => h) (Or.inl ⟨by rfl, ?_⟩) hHeld ?_
  rotate_left
  · intro w hSw; (try dsimp only at hSw); go_simp; (try with_reducible rfl)
  try simp only [Act.put, List.setIfInBounds_toArray, List.set_cons_zero, List.set_cons_succ]
  refine wpAnyH_take (i := 4) (v := ?_) (by simp only [List.getElem?_toArray, List.getElem?_cons_succ, List.getElem?_cons_zero]; rfl) (by kernel_rfl) (by kernel_rfl) (by kernel_rfl) (by exact fun _ _ _ h => h) (Or.inl ⟨by rfl, ?_⟩) hHeld ?_
  rotate_left
  · intro w hSw; (try dsimp only at hSw); go_simp; (try with_reducible rfl)
  try simp only [Act.put, List.setIfInBounds_toArray, List.set_cons_zero, List.set_cons_succ]
  refine wpAnyH_take (i := 5) (v := ?_) (by simp only [List.getElem?_toArray, List.getElem?_cons_succ, List.getElem?_cons_zero]; rfl) (by kernel_rfl) (by kernel_rfl) (by kernel_rfl) (by exact fun _ _ _ h => h) (Or.inl ⟨by rfl, ?_⟩) hHeld ?_
  rotate_left
  · intro w hSw; (try dsimp only at hSw); go_simp; (try with_reducible rfl)
  try simp only [Act.put, List.setIfInBounds_toArray, List.set_cons_zero, List.set_cons_succ]
  refine wpAnyH_take (i := 6) (v := ?_) (by simp only [List.getElem?_toArray, List.getElem?_cons_succ, List.getElem?_cons_zero]; rfl) (by kernel_rfl) (by kernel_rfl) (by kernel_rfl) (by exact fun _ _ _ h => h) (Or.inl ⟨by rfl, ?_⟩) hHeld ?_
  rotate_left
  · intro w hSw; (try dsimp only at hSw); go_simp; (try with_reducible rfl)
  try simp only [Act.put, List.setIfInBounds_toArray, List.set_cons_zero, List.set_cons_succ]
  refine wpAnyH_take (i := 7) (v := ?_) (by simp only [List.getElem?_toArray, List.getElem?_cons_succ, List.getElem?_cons_zero]; rfl) (by kernel_rfl) (by kernel_rfl) (by kernel_rfl) (by exact fun _ _ _ h => h) (Or.inl ⟨by rfl, ?_⟩) hHeld ?_
  rotate_left
  · intro w hSw; (try dsimp only at hSw); go_simp; (try with_reducible rfl)
  try simp only [Act.put, List.setIfInBounds_toArray, List.set_cons_zero, List.set_cons_succ]
  refine wpAnyH_take (i := 8) (v := ?_) (by simp only [List.getElem?_toArray, List.getElem?_cons_succ, List.getElem?_cons_zero]; rfl) (by kernel_rfl) (by kernel_rfl) (by kernel_rfl) (by exact fun _ _ _ h => h) (Or.inl ⟨by rfl, ?_⟩) hHeld ?_
  rotate_left
  · intro w hSw; (try dsimp only at hSw); go_simp; (try with_reducible rfl)
  try simp only [Act.put, List.setIfInBounds_toArray, List.set_cons_zero, List.set_cons_succ]
  refine wpAnyH_ready (rs := [9]) (by kernel_rfl) (by simp) ?_
  refine AllReadyH.cons (by simp only [List.getElem?_toArray, List.getElem?_cons_succ, List.getElem?_cons_zero]; rfl) (fun kC hkC => ?_) AllReadyH.nil
  go_simp
  refine (rthread_lit 3 1 3 0 4 d.th 0 (phD d) HPH.out _).mono ?_; rintro e w' ⟨rfl, hk1⟩; have h1 := hd.no hk1
  (try go_wp2_with fail)
  refine hkC.out _ _ (⟨⟨h1.tx.c 0 rfl, h1.tx.c 1 rfl, h1.tx.c 2 rfl, h1.tx.c 3 rfl, h1.tx.c 4 rfl⟩, h1.tx.c 6 rfl⟩) (fun hHeld => ?_)
  clear hkC kC
  try simp only [Act.put, List.setIfInBounds_toArray, List.set_cons_zero, List.set_cons_succ]
  refine wpAnyH_ready (rs := [10]) (by kernel_rfl) (by simp) ?_
  refine AllReadyH.cons (by simp only [List.getElem?_toArray, List.getElem?_cons_succ, List.getElem?_cons_zero]; rfl) (fun kC hkC => ?_) AllReadyH.nil
  go_simp
  (try rw [wrap_w]); refine (rstore_tot c u M (phD d) 0 _ h1.mm).mono ?_; rintro e w' ⟨rfl, hm, hk3⟩; have h3 := h1.mem hm hk3
  (try go_wp2_with fail)
  refine hkC.out _ _ (⟨⟨h3.tx.c 0 rfl, h3.tx.c 1 rfl, h3.tx.c 2 rfl, h3.tx.c 3 rfl, h3.tx.c 4 rfl⟩, h3.tx.c 6 rfl⟩) (fun hHeld => ?_)
  clear hkC kC
  try simp only [Act.put, List.setIfInBounds_toArray, List.set_cons_zero, List.set_cons_succ]
  refine wpAnyH_done (by kernel_rfl) ?_ _
  have k3 := ((Keeps.refl NoS w).drew.trans hk1).no.trans (kM (rv := rv) (wv := wv) (Y := Y) hk3)
  clear hm hk1 hk3 h1 hd hHeld
  obtain ⟨wp, wc, hwv⟩ := h3.tx.wsl
  have c13 := h3.tx.c 13 (u := .slice wp d.W.length wc) (by rw [← hwv]; rfl)
  clear hwv
  have c15 := h3.tx.c 15 (u := .bool d.alive) rfl
  have c29 := h3.tx.c 29 (u := .int .i64 d.stamp) rfl
  have c30 := h3.tx.c 30 (u := .int .i64 d.made) rfl
  have f15 := h3.tx.f 15
  have f29 := h3.tx.f 29
  have hl := h3.tx.lt
  by_cases qw : (0 : Int) < d.W.length
  · have HRR := Lib.hid (show writesD M d = (M.storeI (phD d) 0, (endD { d with stamp := d.made, alive := false }, 1)) by rw [hrr, if_pos qw])
    clear hrr
    go_upto_region 22 with fail
    have h4 := (h3.set 29 (.int .i64 d.made) (d' := { d with stamp := d.made }) rfl rfl rfl).set 15 (.bool false) (d' := { d with stamp := d.made, alive := false }) rfl rfl rfl
    have k4 := k3.trans (kY (rv := rv) (wv := wv) (c := c) (u := u) ((keepsY _ Y 29 (.int .i64 d.made)).trans (keepsY _ Y 15 (.bool false))))
    generalize (World.setCell _ ⟨Y, 29, none⟩ (.int .i64 d.made)).setCell ⟨Y, 15, none⟩ (.bool false) = w4 at *
    clear c13 c15 c29 c30 f15 f29 hl h3 k3 qw
    go_wp2_with (go_at_call 102; refine (dend_any h4).mono ?_; rintro e w5 ⟨rfl, h5, k5⟩)
    go_ret
    rw [HRR.out]
    exact ⟨rfl, h5.kp (k4.trans (kY k5))⟩
  · have HRR := Lib.hid (show writesD M d = (M.storeI (phD d) 0, (endD { d with alive := false }, 1)) by rw [hrr, if_neg qw])
    clear hrr
    go_upto_region 22 with fail
    have h4 := h3.set 15 (.bool false) (d' := { d with alive := false }) rfl rfl rfl
    have k4 := k3.trans (kY (rv := rv) (wv := wv) (c := c) (u := u) (keepsY _ Y 15 (.bool false)))
    generalize World.setCell _ ⟨Y, 15, none⟩ (.bool false) = w4 at *
    clear c13 c15 c29 c30 f15 f29 hl h3 k3 qw
    go_wp2_with (go_at_call 102; refine (dend_any h4).mono ?_; rintro e w5 ⟨rfl, h5, k5⟩)
    go_ret
    rw [HRR.out]
    exact ⟨rfl, h5.kp (k4.trans (kY k5))⟩
end Go.Proofs.YtlcmnhfiggkmnaaGreat
