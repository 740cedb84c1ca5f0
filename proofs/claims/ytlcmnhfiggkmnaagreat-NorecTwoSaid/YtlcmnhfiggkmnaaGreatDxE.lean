/- The document's attempt: one access of looking through. -/
import Derived.Test.YtlcmnhfiggkmnaaGreatDxD
import Derived.Test.YtlcmnhfiggkmnaaGreatHeldT
import Derived.Deep.RegionHeld3
import Derived.Deep.DeepCutAuto
import Derived.Deep.QuietTactic
import Derived.BigQuiet
namespace Go.Proofs.YtlcmnhfiggkmnaaGreat
open Go.RowKit
theorem rseq1 : seqP ⟨3, 1, 3, 0, 4⟩ = 1 := by kernel_rfl
set_option maxHeartbeats 4000000 in
set_option maxRecDepth 100000 in
theorem dlooked_any {w : World} {c Y : Nat} {u rv wv : Value} {M : MemS} {d : DxS} (h : DX w c u M Y rv wv d) (hp : lookedOk d) (hrl : d.R.length ≤ 32) : Calls Tryz.prog 103 #[.pointer (some ⟨Y, 0, none⟩), .pointer (some ⟨c, 0, none⟩)] w fun e w' => e = .returned (.int .i64 (lookedD M d).2.2) ∧ DX w' c u (lookedD M d).1 Y rv wv (lookedD M d).2.1 ∧ Keeps (fun g => dxO Y rv wv g ∨ own2m c u g) w w' := by
  have c0 := h.tx.c 0 (u := .int .i64 3) rfl
  have c1 := h.tx.c 1 (u := .int .i64 1) rfl
  have c2 := h.tx.c 2 (u := .int .i64 3) rfl
  have c3 := h.tx.c 3 (u := .int .i64 0) rfl
  have c4 := h.tx.c 4 (u := .int .i64 4) rfl
  have hl := h.tx.lt
  obtain ⟨sq, hsq⟩ : ∃ z, M.atP 1 = z := ⟨_, rfl⟩
  have HSQ := Lib.hid hsq
  by_cases p1 : d.look = 1
  · have HL := Lib.hid (show lookedD M d = (M.loadI 1, if oddB sq then (d, 0) else ({ d with next := sq, look := if (d.R.length : Int) = 0 then 3 else 2, seen := 0 }, 0)) by unfold lookedD; rw [if_pos p1, hsq])
    have c22 := h.tx.c 22 (u := .int .i64 1) (by rw [← p1]; rfl)
    have HP := Lib.hid p1
    clear hsq p1 hp
    cases ho : oddB sq with
    | true =>
      have HR := Lib.hid (show lookedD M d = (M.loadI 1, (d, 0)) by rw [HL.out, ho]; rfl)
      have hob : (bits BinOp.and IntKind.i64 sq 1 == 1) = true := ho
      clear ho HL
      go_enter Tryz.func103, Tryz.ntmps103
      go_upto_region 6 with (go_at_call 100; refine (rseq_lit 3 1 3 0 4 1 rseq1 _).mono ?_; rintro e w1 ⟨rfl, hk1⟩; have h1 := h.no hk1)
      clear c0 c1 c2 c3 c4
      have c22 := h1.tx.c 22 (u := .int .i64 1) (by rw [← HP.out]; rfl)
      have hl1 := h1.tx.lt
      go_wp2_with (go_at_call 101; refine (rload_tot c u M 1 _ h1.mm).mono ?_; rw [HSQ.out]; rintro e w2 ⟨rfl, hm, hk2⟩; have h2 := h1.mem hm hk2)
      go_ret
      rw [HR.out]
      exact ⟨rfl, h2, hk1.no.trans (kM hk2)⟩
    | false =>
      have HR := Lib.hid (show lookedD M d = (M.loadI 1, ({ d with next := sq, look := if (d.R.length : Int) = 0 then 3 else 2, seen := 0 }, 0)) by rw [HL.out, ho]; rfl)
      have hob : (bits BinOp.and IntKind.i64 sq 1 == 1) = false := ho
      clear ho HL
      go_enter Tryz.func103, Tryz.ntmps103
      go_upto_region 6 with (go_at_call 100; refine (rseq_lit 3 1 3 0 4 1 rseq1 _).mono ?_; rintro e w1 ⟨rfl, hk1⟩; have h1 := h.no hk1)
      clear c0 c1 c2 c3 c4 c22 hl
      have c22 := h1.tx.c 22 (u := .int .i64 1) (by rw [← HP.out]; rfl)
      have hl1 := h1.tx.lt
      go_upto_region 10 with (go_at_call 101; refine (rload_tot c u M 1 _ h1.mm).mono ?_; rw [HSQ.out]; rintro e w2 ⟨rfl, hm, hk2⟩; have h2 := h1.mem hm hk2)
      have kq : Keeps (fun g => dxO Y rv wv g ∨ own2m c u g) w w2 := hk1.no.trans (kM hk2)
      clear c22 hl1 hm hk1 hk2 h1
      have c27 := h2.tx.c 27 (u := .int .i64 d.next) rfl
      have c22 := h2.tx.c 22 (u := .int .i64 d.look) rfl
      have c23 := h2.tx.c 23 (u := .int .i64 d.seen) rfl
      have f27 := h2.tx.f 27
      have f22 := h2.tx.f 22
      have f23 := h2.tx.f 23
      have hl := h2.tx.lt
      go_upto_region 11 with fail
      have h3 := (((h2.set 27 (.int .i64 sq) (d' := { d with next := sq }) rfl rfl rfl).set 22 (.int .i64 2) (d' := { d with next := sq, look := 2 }) rfl rfl rfl).set 23 (.int .i64 0) (d' := { d with next := sq, look := 2, seen := 0 }) rfl rfl rfl)
      have k3 : Keeps (fun g => dxO Y rv wv g ∨ own2m c u g) w (((w2.setCell ⟨Y, 27, none⟩ (.int .i64 sq)).setCell ⟨Y, 22, none⟩ (.int .i64 2)).setCell ⟨Y, 23, none⟩ (.int .i64 0)) := kq.trans (kY ((((Keeps.refl (just Y) w2).setCell (p := ⟨Y, 27, none⟩) (fun _ => rfl) _).setCell (p := ⟨Y, 22, none⟩) (fun _ => rfl) _).setCell (p := ⟨Y, 23, none⟩) (fun _ => rfl) _))
      generalize (((w2.setCell ⟨Y, 27, none⟩ (.int .i64 sq)).setCell ⟨Y, 22, none⟩ (.int .i64 2)).setCell ⟨Y, 23, none⟩ (.int .i64 0)) = w3 at *
      clear c27 c22 c23 f27 f22 f23 hl h2 kq
      obtain ⟨rp, rc, hrv⟩ := h3.tx.rsl
      have c10 := h3.tx.c 10 (u := .slice rp d.R.length rc) (by rw [← hrv]; rfl)
      have f22 := h3.tx.f 22
      have c22 := h3.tx.c 22 (u := .int .i64 2) rfl
      have hl := h3.tx.lt
      clear hrv
      by_cases qr : (d.R.length : Int) = 0
      · have HRR := Lib.hid (show lookedD M d = (M.loadI 1, ({ d with next := sq, look := 3, seen := 0 }, 0)) by rw [HR.out, if_pos qr])
        have e1 : ((d.R.length : Int) == 0) = true := by simpa using qr
        clear qr
        go_upto_region 26 with fail
        have h4 := h3.set 22 (.int .i64 3) (d' := { d with next := sq, look := 3, seen := 0 }) rfl rfl rfl
        have k4 := k3.trans (kY (rv := rv) (wv := wv) (c := c) (u := u) (keepsY w3 Y 22 (.int .i64 3)))
        generalize w3.setCell ⟨Y, 22, none⟩ (.int .i64 3) = w4 at *
        clear c10 f22 c22 hl h3 k3
        have c22 := h4.tx.c 22 (u := .int .i64 3) rfl
        go_quiet (fail)
        go_wp2_with fail
        go_ret
        rw [HRR.out]
        exact ⟨rfl, h4.no ((Keeps.refl NoS _).drewN _), k4.drewN _⟩
      · have HRR := Lib.hid (show lookedD M d = (M.loadI 1, ({ d with next := sq, look := 2, seen := 0 }, 0)) by rw [HR.out, if_neg qr])
        have e1 : ((d.R.length : Int) == 0) = false := by simpa using qr
        clear qr
        go_upto_region 26 with fail
        go_quiet (fail)
        go_wp2_with fail
        go_ret
        rw [HRR.out]
        exact ⟨rfl, h3.no ((Keeps.refl NoS _).drewN _), k3.drewN _⟩
  by_cases p2 : d.look = 2
  · obtain ⟨hi0, hi1⟩ : 0 ≤ d.seen ∧ d.seen < (d.R.length : Int) := by
      rcases hp with e | ⟨_, e⟩ | e
      · exact absurd e p1
      · exact e
      · omega
    obtain ⟨k, hk⟩ := Int.eq_ofNat_of_zero_le hi0
    have hkn : d.seen.toNat = k := by rw [hk]; rfl
    have hkl : k < d.R.length := by omega
    obtain ⟨oa, hoa⟩ : ∃ z, (d.R.getD k (0, 0)).1 = z := ⟨_, rfl⟩
    obtain ⟨ov, hov⟩ : ∃ z, (d.R.getD k (0, 0)).2 = z := ⟨_, rfl⟩
    obtain ⟨at0, hat0⟩ : ∃ z, M.atP oa = z := ⟨_, rfl⟩
    have HAT := Lib.hid hat0
    have hrr : lookedD M d = (M.loadI oa, if at0 = ov then ({ d with seen := (k : Int) + 1, look := if (k : Int) + 1 = (d.R.length : Int) then 3 else 2 }, 0) else (d, 2)) := by unfold lookedD; rw [if_neg p1, if_pos p2, hkn, hoa, hov, ← hat0, hk]
    have HK := Lib.hid hk
    have HP := Lib.hid p2
    obtain ⟨g, cap, hgv, hcell⟩ : ∃ g cap, rv = .slice (some ⟨g, 0, none⟩) d.R.length cap ∧ (∀ w', DX w' c u M Y rv wv d → w'.cell? ⟨g, k * 2, none⟩ = some (.int .i64 oa) ∧ w'.cell? ⟨g, k * 2 + 1, none⟩ = some (.int .i64 ov)) := by
      rcases owns_words h.tx.rs with ⟨_, hr0⟩ | ⟨g, cap, hv, _⟩
      · rw [hr0] at hkl; simp at hkl
      · refine ⟨g, cap, hv, fun w' hw' => ?_⟩
        rcases owns_words hw'.tx.rs with ⟨_, hr0⟩ | ⟨g2, cap2, hv2, _, _, hc⟩
        · rw [hr0] at hkl; simp at hkl
        · rw [hv] at hv2
          injection hv2 with e1 e2 e3
          injection e1 with e1
          injection e1 with e1
          subst e1
          rw [← hoa, ← hov]
          exact hc k hkl
    have hMo : ∀ (w' : World) (M' : MemS), DX w' c u M' Y rv wv d → w'.cell? ⟨g, k * 2 + 1, none⟩ = some (.int .i64 ov) := by
      intro w' M' hw'
      rcases owns_words hw'.tx.rs with ⟨_, hr0⟩ | ⟨g2, cap2, hv2, _, _, hc⟩
      · rw [hr0] at hkl; simp at hkl
      · rw [hgv] at hv2
        injection hv2 with e1 e2 e3
        injection e1 with e1
        injection e1 with e1
        subst e1
        rw [← hov]
        exact (hc k hkl).2
    have HC := Lib.hid hcell; have HMO := Lib.hid hMo; have HGV := Lib.hid hgv
    have hk0 : (0 : Int) ≤ (k : Int) := by omega
    have hk1' : (k : Int) < (d.R.length : Int) := by omega
    obtain ⟨n, hn⟩ : ∃ n, d.R.length = n := ⟨_, rfl⟩
    have HKW := Lib.hid (show wrap64 ((k : Int) + 1) = (k : Int) + 1 from wrap64_id (by omega) (by omega))
    have c22 := h.tx.c 22 (u := .int .i64 2) (by rw [← p2]; rfl)
    clear hsq p1 p2 hp hi0 hi1 hkn hoa hov hat0 hcell hMo hgv hk
    rw [hn] at hrr hk1' hkl
    have HN := Lib.hid hn
    clear hn
    go_enter Tryz.func103, Tryz.ntmps103
    go_upto_region 6 with (go_at_call 100; refine (rseq_lit 3 1 3 0 4 1 rseq1 _).mono ?_; rintro e w1 ⟨rfl, hk1⟩; have h1 := h.no hk1)
    clear c0 c1 c2 c3 c4 c22 hl
    have c22 := h1.tx.c 22 (u := .int .i64 2) (by rw [← HP.out]; rfl)
    go_upto_region 14 with fail
    clear c22
    have HS := Lib.hid (show ∀ w', DX w' c u M Y rv wv d → (w'.cell? ⟨Y, 10, none⟩ = some (.slice (some ⟨g, 0, none⟩) n cap) ∧ w'.cell? ⟨Y, 23, none⟩ = some (.int .i64 (k : Int)) ∧ w'.cell? ⟨g, k * 2, none⟩ = some (.int .i64 oa)) from fun w' hw => ⟨hw.tx.c 10 (by rw [← HN.out, ← HGV.out]; rfl), hw.tx.c 23 (by rw [← HK.out]; rfl), (HC.out w' hw).1⟩)
    have hd := h1.no ((Keeps.refl NoS w1).drew)
    refine wp_region_held_drew (S := (fun w' => w'.cell? ⟨Y, 10, none⟩ = some (.slice (some ⟨g, 0, none⟩) n cap) ∧ w'.cell? ⟨Y, 23, none⟩ = some (.int .i64 (k : Int)) ∧ w'.cell? ⟨g, k * 2, none⟩ = some (.int .i64 oa))) (by kernel_rfl) ((HS.out _ hd)) (fun hHeld => ?_)
    refine wpAnyH_take (i := 0) (v := ?_) (by simp only [List.getElem?_toArray, List.getElem?_cons_succ, List.getElem?_cons_zero]; rfl) (by kernel_rfl) (by kernel_rfl) (by kernel_rfl) (by exact fun _ _ _ h => h) (Or.inl ⟨by rfl, ?_⟩) hHeld ?_
    rotate_left
    · intro w hSw; (try dsimp only at hSw); go_simp; (try with_reducible rfl)
    try simp only [Act.put, List.setIfInBounds_toArray, List.set_cons_zero, List.set_cons_succ]
    refine wpAnyH_take (i := 1) (v := ?_) (by simp only [List.getElem?_toArray, List.getElem?_cons_succ, List.getElem?_cons_zero]; rfl) (by kernel_rfl) (by kernel_rfl) (by kernel_rfl) (by exact fun _ _ _ h => h) (Or.inl ⟨by rfl, ?_⟩) hHeld ?_
    rotate_left
    · intro w hSw; (try dsimp only at hSw); go_simp; (try with_reducible rfl)
    try simp only [Act.put, List.setIfInBounds_toArray, List.set_cons_zero, List.set_cons_succ]
    refine wpAnyH_take (i := 2) (v := ?_) (by simp only [List.getElem?_toArray, List.getElem?_cons_succ, List.getElem?_cons_zero]; rfl) (by kernel_rfl) (by kernel_rfl) (by kernel_rfl) (by exact fun _ _ _ h => h) (Or.inl ⟨by rfl, ?_⟩) hHeld ?_
    rotate_left
    · intro w hSw; (try dsimp only at hSw); go_simp; (try with_reducible rfl)
    try simp only [Act.put, List.setIfInBounds_toArray, List.set_cons_zero, List.set_cons_succ]
    refine wpAnyH_take (i := 3) (v := ?_) (by simp only [List.getElem?_toArray, List.getElem?_cons_succ, List.getElem?_cons_zero]; rfl) (by kernel_rfl) (by kernel_rfl) (by kernel_rfl) (by exact fun _ _ _ h => h) (Or.inl ⟨by rfl, ?_⟩) hHeld ?_
    rotate_left
    · intro w hSw; (try dsimp only at hSw); go_simp; (try with_reducible rfl)
    try simp only [Act.put, List.setIfInBounds_toArray, List.set_cons_zero, List.set_cons_succ]
    refine wpAnyH_take (i := 4) (v := ?_) (by simp only [List.getElem?_toArray, List.getElem?_cons_succ, List.getElem?_cons_zero]; rfl) (by kernel_rfl) (by kernel_rfl) (by kernel_rfl) (by exact fun _ _ _ h => h) (Or.inl ⟨by rfl, ?_⟩) hHeld ?_
    rotate_left
    · intro w hSw; (try dsimp only at hSw); go_simp; (try with_reducible rfl)
    try simp only [Act.put, List.setIfInBounds_toArray, List.set_cons_zero, List.set_cons_succ]
    refine wpAnyH_take (i := 5) (v := ?_) (by simp only [List.getElem?_toArray, List.getElem?_cons_succ, List.getElem?_cons_zero]; rfl) (by kernel_rfl) (by kernel_rfl) (by kernel_rfl) (by exact fun _ _ _ h => h) (Or.inl ⟨by rfl, ?_⟩) hHeld ?_
    rotate_left
    · intro w hSw; (try dsimp only at hSw); go_simp; (try with_reducible rfl)
    try simp only [Act.put, List.setIfInBounds_toArray, List.set_cons_zero, List.set_cons_succ]
    refine wpAnyH_take (i := 6) (v := ?_) (by simp only [List.getElem?_toArray, List.getElem?_cons_succ, List.getElem?_cons_zero]; rfl) (by kernel_rfl) (by kernel_rfl) (by kernel_rfl) (by exact fun _ _ _ h => h) (Or.inl ⟨by rfl, ?_⟩) hHeld ?_
    rotate_left
    · intro w hSw; (try dsimp only at hSw); go_simp; (try with_reducible rfl)
    try simp only [Act.put, List.setIfInBounds_toArray, List.set_cons_zero, List.set_cons_succ]
    refine wpAnyH_take (i := 7) (v := ?_) (by simp only [List.getElem?_toArray, List.getElem?_cons_succ, List.getElem?_cons_zero]; rfl) (by kernel_rfl) (by kernel_rfl) (by kernel_rfl) (by exact fun _ _ _ h => h) (Or.inl ⟨by rfl, ?_⟩) hHeld ?_
    rotate_left
    · intro w hSw; (try dsimp only at hSw); go_simp; (try with_reducible rfl)
    try simp only [Act.put, List.setIfInBounds_toArray, List.set_cons_zero, List.set_cons_succ]
    refine wpAnyH_take (i := 8) (v := ?_) (by simp only [List.getElem?_toArray, List.getElem?_cons_succ, List.getElem?_cons_zero]; rfl) (by kernel_rfl) (by kernel_rfl) (by kernel_rfl) (by exact fun _ _ _ h => h) (Or.inl ⟨by rfl, ?_⟩) hHeld ?_
    rotate_left
    · intro w hSw; (try dsimp only at hSw); go_simp; (try with_reducible rfl)
    try simp only [Act.put, List.setIfInBounds_toArray, List.set_cons_zero, List.set_cons_succ]
    refine wpAnyH_take (i := 9) (v := ?_) (by simp only [List.getElem?_toArray, List.getElem?_cons_succ, List.getElem?_cons_zero]; rfl) (by kernel_rfl) (by kernel_rfl) (by kernel_rfl) (by exact fun _ _ _ h => h) (Or.inl ⟨by rfl, ?_⟩) hHeld ?_
    rotate_left
    · intro w hSw; (try dsimp only at hSw); go_simp; (try with_reducible rfl)
    try simp only [Act.put, List.setIfInBounds_toArray, List.set_cons_zero, List.set_cons_succ]
    refine wpAnyH_take (i := 10) (v := ?_) (by simp only [List.getElem?_toArray, List.getElem?_cons_succ, List.getElem?_cons_zero]; rfl) (by kernel_rfl) (by kernel_rfl) (by kernel_rfl) (by exact fun _ _ _ h => h) (Or.inl ⟨by rfl, ?_⟩) hHeld ?_
    rotate_left
    · intro w hSw; (try dsimp only at hSw); go_simp; (try with_reducible rfl)
    try simp only [Act.put, List.setIfInBounds_toArray, List.set_cons_zero, List.set_cons_succ]
    refine wpAnyH_take (i := 11) (v := ?_) (by simp only [List.getElem?_toArray, List.getElem?_cons_succ, List.getElem?_cons_zero]; rfl) (by kernel_rfl) (by kernel_rfl) (by kernel_rfl) (by exact fun _ _ _ h => h) (Or.inl ⟨by rfl, ?_⟩) hHeld ?_
    rotate_left
    · intro w hSw; (try dsimp only at hSw); go_simp; (try with_reducible rfl)
    try simp only [Act.put, List.setIfInBounds_toArray, List.set_cons_zero, List.set_cons_succ]
    refine wpAnyH_take (i := 12) (v := ?_) (by simp only [List.getElem?_toArray, List.getElem?_cons_succ, List.getElem?_cons_zero]; rfl) (by kernel_rfl) (by kernel_rfl) (by kernel_rfl) (by exact fun _ _ _ h => h) (Or.inl ⟨by rfl, ?_⟩) hHeld ?_
    rotate_left
    · intro w hSw; (try dsimp only at hSw); go_simp; (try with_reducible rfl)
    try simp only [Act.put, List.setIfInBounds_toArray, List.set_cons_zero, List.set_cons_succ]
    refine wpAnyH_ready (rs := [13]) (by kernel_rfl) (by simp) ?_
    refine AllReadyH.cons (by simp only [List.getElem?_toArray, List.getElem?_cons_succ, List.getElem?_cons_zero]; rfl) (fun kC hkC => ?_) AllReadyH.nil
    go_simp
    refine (rload_tot c u M oa _ hd.mm).mono ?_; rw [HAT.out]; rintro e w2 ⟨rfl, hm, hk2⟩; have h2 := hd.mem hm hk2; have kq : Keeps (fun g => dxO Y rv wv g ∨ own2m c u g) w w2 := (hk1.drew).no.trans (kM hk2); have y10 := h2.tx.c 10 (u := .slice (some ⟨g, 0, none⟩) n cap) (by rw [← HN.out, ← HGV.out]; rfl); have y23 := h2.tx.c 23 (u := .int .i64 (k : Int)) (by rw [← HK.out]; rfl); have y1 := hk2.cell (HS.out _ hd).2.2 (fun e => hd.ap g e (.inr (.inl (by rw [HGV.out]; rfl))))
    (try go_wp2_with fail)
    refine hkC.out _ _ (⟨y10, y23, y1⟩) (fun hHeld => ?_)
    clear hkC kC
    try simp only [Act.put, List.setIfInBounds_toArray, List.set_cons_zero, List.set_cons_succ]
    refine wpAnyH_take (i := 14) (v := ?_) (by simp only [List.getElem?_toArray, List.getElem?_cons_succ, List.getElem?_cons_zero]; rfl) (by kernel_rfl) (by kernel_rfl) (by kernel_rfl) (by exact fun _ _ _ h => h) (Or.inl ⟨by rfl, ?_⟩) hHeld ?_
    rotate_left
    · intro w hSw; (try dsimp only at hSw); go_simp; (try with_reducible rfl)
    try simp only [Act.put, List.setIfInBounds_toArray, List.set_cons_zero, List.set_cons_succ]
    refine wpAnyH_take (i := 15) (v := ?_) (by simp only [List.getElem?_toArray, List.getElem?_cons_succ, List.getElem?_cons_zero]; rfl) (by kernel_rfl) (by kernel_rfl) (by kernel_rfl) (by exact fun _ _ _ h => h) (Or.inl ⟨by rfl, ?_⟩) hHeld ?_
    rotate_left
    · intro w hSw; (try dsimp only at hSw); go_simp; (try with_reducible rfl)
    try simp only [Act.put, List.setIfInBounds_toArray, List.set_cons_zero, List.set_cons_succ]
    refine wpAnyH_take (i := 16) (v := ?_) (by simp only [List.getElem?_toArray, List.getElem?_cons_succ, List.getElem?_cons_zero]; rfl) (by kernel_rfl) (by kernel_rfl) (by kernel_rfl) (by exact fun _ _ _ h => h) (Or.inl ⟨by rfl, ?_⟩) hHeld ?_
    rotate_left
    · intro w hSw; (try dsimp only at hSw); go_simp; (try with_reducible rfl)
    try simp only [Act.put, List.setIfInBounds_toArray, List.set_cons_zero, List.set_cons_succ]
    refine wpAnyH_take (i := 17) (v := ?_) (by simp only [List.getElem?_toArray, List.getElem?_cons_succ, List.getElem?_cons_zero]; rfl) (by kernel_rfl) (by kernel_rfl) (by kernel_rfl) (by exact fun _ _ _ h => h) (Or.inl ⟨by rfl, ?_⟩) hHeld ?_
    rotate_left
    · intro w hSw; (try dsimp only at hSw); go_simp; (try with_reducible rfl)
    try simp only [Act.put, List.setIfInBounds_toArray, List.set_cons_zero, List.set_cons_succ]
    refine wpAnyH_take (i := 18) (v := ?_) (by simp only [List.getElem?_toArray, List.getElem?_cons_succ, List.getElem?_cons_zero]; rfl) (by kernel_rfl) (by kernel_rfl) (by kernel_rfl) (by exact fun _ _ _ h => h) (Or.inl ⟨by rfl, ?_⟩) hHeld ?_
    rotate_left
    · intro w hSw; (try dsimp only at hSw); go_simp; (try with_reducible rfl)
    try simp only [Act.put, List.setIfInBounds_toArray, List.set_cons_zero, List.set_cons_succ]
    refine wpAnyH_done (by kernel_rfl) ?_ _
    clear y1 hm hk1 hk2 hd h1
    have y1 := HMO.out _ _ h2
    by_cases qe : at0 = ov
    · have HR1 := Lib.hid (show lookedD M d = (M.loadI oa, ({ d with seen := (k : Int) + 1, look := if (k : Int) + 1 = (n : Int) then 3 else 2 }, 0)) by rw [hrr, if_pos qe])
      have hb1 : (at0 != ov) = false := by simpa using qe
      clear hrr qe
      go_upto_region 15 with fail
      go_quiet (fail)
      go_upto_region 17 with fail
      have h3 := h2.no ((Keeps.refl NoS w2).drewN nq)
      have k3 := kq.drewN nq
      generalize w2.drewN nq = w3 at *
      clear y10 y23 y1 h2 kq
      have c23 := h3.tx.c 23 (u := .int .i64 (k : Int)) (by rw [← HK.out]; rfl)
      have f23 := h3.tx.f 23
      have hl := h3.tx.lt
      have h4 := h3.set 23 (.int .i64 ((k : Int) + 1)) (d' := { d with seen := (k : Int) + 1 }) rfl rfl rfl
      have k4 := k3.trans (kY (rv := rv) (wv := wv) (c := c) (u := u) (keepsY w3 Y 23 (.int .i64 ((k : Int) + 1))))
      go_upto_region 18 with fail
      rw [HKW.out]
      generalize w3.setCell ⟨Y, 23, none⟩ (.int .i64 ((k : Int) + 1)) = w4 at *
      clear c23 f23 hl h3 k3
      have c23 := h4.tx.c 23 (u := .int .i64 ((k : Int) + 1)) rfl
      have c10 := h4.tx.c 10 (u := .slice (some ⟨g, 0, none⟩) n cap) (by rw [← HN.out, ← HGV.out]; rfl)
      by_cases q2 : (k : Int) + 1 = (n : Int)
      · have HRR := Lib.hid (show lookedD M d = (M.loadI oa, ({ d with seen := (k : Int) + 1, look := 3 }, 0)) by rw [HR1.out, if_pos q2])
        have e1 : ((k : Int) + 1 == (n : Int)) = true := by simpa using q2
        clear q2
        go_quiet (fail)
        go_upto_region 19 with fail
        have h5 := h4.no ((Keeps.refl NoS w4).drewN nq)
        have k5 := k4.drewN nq
        generalize w4.drewN nq = w5 at *
        clear c23 c10 h4 k4
        have c22 := h5.tx.c 22 (u := .int .i64 2) (by rw [← HP.out]; rfl)
        have f22 := h5.tx.f 22
        have hl := h5.tx.lt
        have h6 := h5.set 22 (.int .i64 3) (d' := { d with seen := (k : Int) + 1, look := 3 }) rfl rfl rfl
        have k6 := k5.trans (kY (rv := rv) (wv := wv) (c := c) (u := u) (keepsY w5 Y 22 (.int .i64 3)))
        go_upto_region 26 with fail
        generalize w5.setCell ⟨Y, 22, none⟩ (.int .i64 3) = w6 at *
        clear c22 f22 hl h5 k5
        have c22 := h6.tx.c 22 (u := .int .i64 3) rfl
        go_quiet (fail)
        go_wp2_with fail
        go_ret
        rw [HRR.out]
        exact ⟨rfl, h6.no ((Keeps.refl NoS _).drewN _), k6.drewN _⟩
      · have HRR := Lib.hid (show lookedD M d = (M.loadI oa, ({ d with seen := (k : Int) + 1, look := 2 }, 0)) by rw [HR1.out, if_neg q2])
        have e1 : ((k : Int) + 1 == (n : Int)) = false := by simpa using q2
        clear q2
        go_quiet (fail)
        go_upto_region 26 with fail
        have h5 := h4.no ((Keeps.refl NoS w4).drewN nq)
        have k5 := k4.drewN nq
        generalize w4.drewN nq = w5 at *
        clear c23 c10 h4 k4
        have hlk : ({ d with seen := (k : Int) + 1, look := 2 } : DxS) = { d with seen := (k : Int) + 1 } := by rw [← HP.out]
        have c22 := h5.tx.c 22 (u := .int .i64 2) (by rw [← HP.out]; rfl)
        go_quiet (fail)
        go_wp2_with fail
        go_ret
        rw [HRR.out, hlk]
        exact ⟨rfl, h5.no ((Keeps.refl NoS _).drewN _), k5.drewN _⟩
    · have HRR := Lib.hid (show lookedD M d = (M.loadI oa, (d, 2)) by rw [hrr, if_neg qe])
      have hb1 : (at0 != ov) = true := by simpa using qe
      clear hrr qe
      go_upto_region 15 with fail
      go_quiet (fail)
      go_wp2_with fail
      go_ret
      rw [HRR.out]
      exact ⟨rfl, h2.no ((Keeps.refl NoS _).drewN _), kq.drewN _⟩
  have p3 : d.look = 3 := by rcases hp with e | ⟨e, _⟩ | e <;> omega
  have hrr : lookedD M d = (M.loadI 1, if sq = d.next then ({ d with stamp := d.next, look := 0, seen := 0 }, 1) else ({ d with look := 1 }, 0)) := by unfold lookedD; rw [if_neg p1, if_neg p2, hsq]
  have c22 := h.tx.c 22 (u := .int .i64 3) (by rw [← p3]; rfl)
  have HP := Lib.hid p3
  clear hsq p1 p2 p3 hp
  go_enter Tryz.func103, Tryz.ntmps103
  go_upto_region 6 with (go_at_call 100; refine (rseq_lit 3 1 3 0 4 1 rseq1 _).mono ?_; rintro e w1 ⟨rfl, hk1⟩; have h1 := h.no hk1)
  clear c0 c1 c2 c3 c4 c22 hl
  have c22 := h1.tx.c 22 (u := .int .i64 3) (by rw [← HP.out]; rfl)
  have hl1 := h1.tx.lt
  go_upto_region 22 with (go_at_call 101; refine (rload_tot c u M 1 _ h1.mm).mono ?_; rw [HSQ.out]; rintro e w2 ⟨rfl, hm, hk2⟩; have h2 := h1.mem hm hk2)
  have kq : Keeps (fun g => dxO Y rv wv g ∨ own2m c u g) w w2 := hk1.no.trans (kM hk2)
  clear c22 hl1 hm hk1 hk2 h1
  have c22 := h2.tx.c 22 (u := .int .i64 3) (by rw [← HP.out]; rfl)
  have c27 := h2.tx.c 27 (u := .int .i64 d.next) rfl
  have c23 := h2.tx.c 23 (u := .int .i64 d.seen) rfl
  have f22 := h2.tx.f 22
  have f23 := h2.tx.f 23
  have hl := h2.tx.lt
  by_cases qe : sq = d.next
  · have HRR := Lib.hid (show lookedD M d = (M.loadI 1, ({ d with stamp := d.next, look := 0, seen := 0 }, 1)) by rw [hrr, if_pos qe])
    have hb1 : (sq != d.next) = false := by simpa using qe
    clear hrr qe
    go_upto_region 26 with fail
    have h3 := ((h2.set 22 (.int .i64 4) (d' := { d with look := 4 }) rfl rfl rfl).set 23 (.int .i64 0) (d' := { d with look := 4, seen := 0 }) rfl rfl rfl)
    have k3 : Keeps (fun g => dxO Y rv wv g ∨ own2m c u g) w ((w2.setCell ⟨Y, 22, none⟩ (.int .i64 4)).setCell ⟨Y, 23, none⟩ (.int .i64 0)) := kq.trans (kY (((Keeps.refl (just Y) w2).setCell (p := ⟨Y, 22, none⟩) (fun _ => rfl) _).setCell (p := ⟨Y, 23, none⟩) (fun _ => rfl) _))
    generalize ((w2.setCell ⟨Y, 22, none⟩ (.int .i64 4)).setCell ⟨Y, 23, none⟩ (.int .i64 0)) = w3 at *
    clear c22 c27 c23 f22 f23 hl h2 kq
    have c22 := h3.tx.c 22 (u := .int .i64 4) rfl
    have c23 := h3.tx.c 23 (u := .int .i64 0) rfl
    have c14 := h3.tx.c 14 (u := .slice none 0 0) rfl
    go_quiet (fail)
    go_upto_region 27 with fail
    have h4 := h3.no ((Keeps.refl NoS w3).drewN nq)
    have k4 := k3.drewN nq
    generalize w3.drewN nq = w4 at *
    clear c22 c23 c14 h3 k3
    have c22 := h4.tx.c 22 (u := .int .i64 4) rfl
    have c27 := h4.tx.c 27 (u := .int .i64 d.next) rfl
    have c29 := h4.tx.c 29 (u := .int .i64 d.stamp) rfl
    have f22 := h4.tx.f 22; have f29 := h4.tx.f 29
    have hl := h4.tx.lt
    go_wp2_with fail
    go_ret
    rw [HRR.out]
    exact ⟨rfl, (h4.set 29 (.int .i64 d.next) (d' := { d with look := 4, seen := 0, stamp := d.next }) rfl rfl rfl).set 22 (.int .i64 0) (d' := { d with stamp := d.next, look := 0, seen := 0 }) rfl rfl rfl, k4.trans (kY ((keepsY w4 Y 29 (.int .i64 d.next)).trans (keepsY _ Y 22 (.int .i64 0))))⟩
  · have HRR := Lib.hid (show lookedD M d = (M.loadI 1, ({ d with look := 1 }, 0)) by rw [hrr, if_neg qe])
    have hb1 : (sq != d.next) = true := by simpa using qe
    clear hrr qe
    go_wp2_with fail
    go_ret
    rw [HRR.out]
    exact ⟨rfl, h2.set 22 (.int .i64 1) (d' := { d with look := 1 }) rfl rfl rfl, kq.trans (kY (keepsY w2 Y 22 (.int .i64 1)))⟩
end Go.Proofs.YtlcmnhfiggkmnaaGreat
