/- The document's attempt: a step. -/
import Derived.Test.YtlcmnhfiggkmnaaGreatDxF
import Derived.Test.YtlcmnhfiggkmnaaGreatHashR
import Derived.Test.YtlcmnhfiggkmnaaGreatHeldT
import Derived.Deep.RegionHeld3
import Derived.Deep.DeepCutAuto
import Derived.Deep.QuietTactic
import Derived.BigQuiet
namespace Go.Proofs.YtlcmnhfiggkmnaaGreat
open Go.RowKit
set_option maxHeartbeats 4000000 in
set_option maxRecDepth 100000 in
theorem dstepRead_any {w : World} {c Y : Nat} {u rv wv : Value} {M : MemS} {d : DxS} (h : DX w c u M Y rv wv d) (hp : (d.look = 0 ∧ (d.state = 0 ∨ d.state = 2)) ∨ lookedOk d) (hrl : d.R.length ≤ 32) (hi : 0 ≤ d.i) : Calls Tryz.prog 62 #[.pointer (some ⟨Y, 0, none⟩), .pointer (some ⟨c, 0, none⟩)] w fun e w' => e = .returned (.int .i64 (stepReadD M d).2.2) ∧ DXP w w' c u (stepReadD M d).1 Y rv wv (stepReadD M d).2.1 := by
  have c22 := h.tx.c 22 (u := .int .i64 d.look) rfl
  have hl := h.tx.lt
  by_cases hk : 0 < d.look
  · have hok : lookedOk d := hp.resolve_left (by omega)
    have HLK := Lib.hid (dlooked_any h hok hrl)
    obtain ⟨res, hres⟩ : ∃ z, lookedD M d = z := ⟨_, rfl⟩
    have hcd := looked_code M d
    rw [hres] at hcd
    have e0 : decide (0 < d.look) = true := decide_eq_true hk
    obtain ⟨M', d', cc⟩ := res
    dsimp only at hcd
    have HLR := Lib.hid hres
    have HT := Lib.hid (show stepReadD M d = (M', if 1 < cc then abortD d' 2 else (d', 0)) by unfold stepReadD; rw [if_pos hk, hres])
    clear hk hres
    rcases hcd with rfl | rfl | rfl
    · have HR := Lib.hid (show stepReadD M d = (M', (d', 0)) from HT.out)
      clear HT
      go_enter Tryz.func62, Tryz.ntmps62
      go_wp2_with (go_at_call 103; refine HLK.out.mono ?_; rw [HLR.out]; rintro e w1 ⟨rfl, h1, k1⟩)
      go_ret
      rw [HR.out]
      exact ⟨rfl, h1.kp k1⟩
    · have HR := Lib.hid (show stepReadD M d = (M', (d', 0)) from HT.out)
      clear HT
      go_enter Tryz.func62, Tryz.ntmps62
      go_wp2_with (go_at_call 103; refine HLK.out.mono ?_; rw [HLR.out]; rintro e w1 ⟨rfl, h1, k1⟩)
      go_ret
      rw [HR.out]
      exact ⟨rfl, h1.kp k1⟩
    · have HR := Lib.hid (show stepReadD M d = (M', abortD d' 2) from HT.out)
      clear HT
      go_enter Tryz.func62, Tryz.ntmps62
      go_wp2_with (first
        | (go_at_call 103; refine HLK.out.mono ?_; rw [HLR.out]; rintro e w1 ⟨rfl, h1, k1⟩)
        | (go_at_call 104; refine (why_any 2 _).mono ?_; rw [if_neg (by decide)]; rintro e w2 ⟨rfl, hw2⟩; subst hw2)
        | (go_at_call 46; refine (dabort_any h1 2).mono ?_; rintro e w3 ⟨rfl, h2, k2⟩))
      go_ret
      rw [HR.out]
      exact ⟨rfl, h2.kp (k1.trans (kY k2))⟩
  by_cases s0 : d.state = 0
  · have HR := Lib.hid (show stepReadD M d = (M.loadI d.pl, ({ d with got := M.atP d.pl, state := 2 }, 0)) by unfold stepReadD; rw [if_neg hk, if_pos s0])
    have e0 : decide (0 < d.look) = false := decide_eq_false hk
    have HS0 := Lib.hid s0
    clear hk s0
    obtain ⟨at0, hat0⟩ : ∃ z, M.atP d.pl = z := ⟨_, rfl⟩
    rw [hat0] at HR
    have HAT := Lib.hid hat0
    clear hat0
    go_enter Tryz.func62, Tryz.ntmps62
    go_upto_region 6 with fail
    have hd := h.no ((Keeps.refl NoS w).drew)
    clear c22 hl
    refine wp_region_held_drew (S := (fun w' => (w'.cell? ⟨Y, 0, none⟩ = some (.int .i64 3) ∧ w'.cell? ⟨Y, 1, none⟩ = some (.int .i64 1) ∧ w'.cell? ⟨Y, 2, none⟩ = some (.int .i64 3) ∧ w'.cell? ⟨Y, 3, none⟩ = some (.int .i64 0) ∧ w'.cell? ⟨Y, 4, none⟩ = some (.int .i64 4)) ∧ w'.cell? ⟨Y, 24, none⟩ = some (.int .i64 d.pl))) (by kernel_rfl) (⟨⟨hd.tx.c 0 rfl, hd.tx.c 1 rfl, hd.tx.c 2 rfl, hd.tx.c 3 rfl, hd.tx.c 4 rfl⟩, hd.tx.c 24 rfl⟩) (fun hHeld => ?_)
    refine wpAnyH_take (i := 0) (v := ?_) (by simp only [List.getElem?_toArray, List.getElem?_cons_succ, List.getElem?_cons_zero]; rfl) (by kernel_rfl) (by kernel_rfl) (by kernel_rfl) (by exact fun _ _ _ h => h) (Or.inl ⟨by rfl, ?_⟩) hHeld ?_
    rotate_left
    · intro w hSw; (try dsimp only at hSw); go_simp; (try with_reducible rfl)
    try simp only [Act.put, List.setIfInBounds_toArray, List.set_cons_zero, List.set_cons_succ]
    refine wpAnyH_take (i := 1) (v := ?_) (by simp only [List.getElem?_toArray, List.getElem?_cons_succ, List.getElem?_cons_zero]; rfl) (by kernel_rfl) (by kernel_rfl) (by kernel_rfl) (by exact fun _ _ _ h => h) (Or.inl ⟨by rfl, ?_⟩) hHeld ?_
    rotate_left
    · intro w hSw; (try dsimp only at hSw); go_simp; (try with_reducible rfl)
    try simp only [Act.put, List.setIfInBounds_toArray, List.set_cons_zero, List.set_cons_succ]
    refine wpAnyH_take (i := 2) (v := ?_) (by simp only [List.getElem?_toArray, List.getElem?_cons_succ, List.getElem?_cons_zero]; rfl) (by kernel_rfl) (by kernel_rfl) (by kernel_rfl) (by exact fun _ _ _ h => h) (Or.inl ⟨by rfl, ?_⟩) hHeld ?_
    rotate_left
    · intro w hSw; (try dsimp only at hSw); go_simp; (try with_reducible rfl)
    try simp only [Act.put, List.setIfInBounds_toArray, List.set_cons_zero, List.set_cons_succ]
    refine wpAnyH_take (i := 3) (v := ?_) (by simp only [List.getElem?_toArray, List.getElem?_cons_succ, List.getElem?_cons_zero]; rfl) (by kernel_rfl) (by kernel_rfl) (by kernel_rfl) (by exact fun _ _ _ h => h) (Or.inl ⟨by rfl, ?_⟩) hHeld ?_
    rotate_left
    · intro w hSw; (try dsimp only at hSw); go_simp; (try with_reducible rfl)
    try simp only [Act.put, List.setIfInBounds_toArray, List.set_cons_zero, List.set_cons_succ]
    refine wpAnyH_take (i := 4) (v := ?_) (by simp only [List.getElem?_toArray, List.getElem?_cons_succ, List.getElem?_cons_zero]; rfl) (by kernel_rfl) (by kernel_rfl) (by kernel_rfl) (by exact fun _ _ _ h => h) (Or.inl ⟨by rfl, ?_⟩) hHeld ?_
    rotate_left
    · intro w hSw; (try dsimp only at hSw); go_simp; (try with_reducible rfl)
    try simp only [Act.put, List.setIfInBounds_toArray, List.set_cons_zero, List.set_cons_succ]
    refine wpAnyH_take (i := 5) (v := ?_) (by simp only [List.getElem?_toArray, List.getElem?_cons_succ, List.getElem?_cons_zero]; rfl) (by kernel_rfl) (by kernel_rfl) (by kernel_rfl) (by exact fun _ _ _ h => h) (Or.inl ⟨by rfl, ?_⟩) hHeld ?_
    rotate_left
    · intro w hSw; (try dsimp only at hSw); go_simp; (try with_reducible rfl)
    try simp only [Act.put, List.setIfInBounds_toArray, List.set_cons_zero, List.set_cons_succ]
    refine wpAnyH_take (i := 6) (v := ?_) (by simp only [List.getElem?_toArray, List.getElem?_cons_succ, List.getElem?_cons_zero]; rfl) (by kernel_rfl) (by kernel_rfl) (by kernel_rfl) (by exact fun _ _ _ h => h) (Or.inl ⟨by rfl, ?_⟩) hHeld ?_
    rotate_left
    · intro w hSw; (try dsimp only at hSw); go_simp; (try with_reducible rfl)
    try simp only [Act.put, List.setIfInBounds_toArray, List.set_cons_zero, List.set_cons_succ]
    refine wpAnyH_take (i := 7) (v := ?_) (by simp only [List.getElem?_toArray, List.getElem?_cons_succ, List.getElem?_cons_zero]; rfl) (by kernel_rfl) (by kernel_rfl) (by kernel_rfl) (by exact fun _ _ _ h => h) (Or.inl ⟨by rfl, ?_⟩) hHeld ?_
    rotate_left
    · intro w hSw; (try dsimp only at hSw); go_simp; (try with_reducible rfl)
    try simp only [Act.put, List.setIfInBounds_toArray, List.set_cons_zero, List.set_cons_succ]
    refine wpAnyH_take (i := 8) (v := ?_) (by simp only [List.getElem?_toArray, List.getElem?_cons_succ, List.getElem?_cons_zero]; rfl) (by kernel_rfl) (by kernel_rfl) (by kernel_rfl) (by exact fun _ _ _ h => h) (Or.inl ⟨by rfl, ?_⟩) hHeld ?_
    rotate_left
    · intro w hSw; (try dsimp only at hSw); go_simp; (try with_reducible rfl)
    try simp only [Act.put, List.setIfInBounds_toArray, List.set_cons_zero, List.set_cons_succ]
    refine wpAnyH_take (i := 9) (v := ?_) (by simp only [List.getElem?_toArray, List.getElem?_cons_succ, List.getElem?_cons_zero]; rfl) (by kernel_rfl) (by kernel_rfl) (by kernel_rfl) (by exact fun _ _ _ h => h) (Or.inl ⟨by rfl, ?_⟩) hHeld ?_
    rotate_left
    · intro w hSw; (try dsimp only at hSw); go_simp; (try with_reducible rfl)
    try simp only [Act.put, List.setIfInBounds_toArray, List.set_cons_zero, List.set_cons_succ]
    refine wpAnyH_take (i := 10) (v := ?_) (by simp only [List.getElem?_toArray, List.getElem?_cons_succ, List.getElem?_cons_zero]; rfl) (by kernel_rfl) (by kernel_rfl) (by kernel_rfl) (by exact fun _ _ _ h => h) (Or.inl ⟨by rfl, ?_⟩) hHeld ?_
    rotate_left
    · intro w hSw; (try dsimp only at hSw); go_simp; (try with_reducible rfl)
    try simp only [Act.put, List.setIfInBounds_toArray, List.set_cons_zero, List.set_cons_succ]
    refine wpAnyH_take (i := 11) (v := ?_) (by simp only [List.getElem?_toArray, List.getElem?_cons_succ, List.getElem?_cons_zero]; rfl) (by kernel_rfl) (by kernel_rfl) (by kernel_rfl) (by exact fun _ _ _ h => h) (Or.inl ⟨by rfl, ?_⟩) hHeld ?_
    rotate_left
    · intro w hSw; (try dsimp only at hSw); go_simp; (try with_reducible rfl)
    try simp only [Act.put, List.setIfInBounds_toArray, List.set_cons_zero, List.set_cons_succ]
    refine wpAnyH_ready (rs := [12]) (by kernel_rfl) (by simp) ?_
    refine AllReadyH.cons (by simp only [List.getElem?_toArray, List.getElem?_cons_succ, List.getElem?_cons_zero]; rfl) (fun kC hkC => ?_) AllReadyH.nil
    go_simp
    refine (rhash_lit 3 1 3 0 4 d.pl _ rfl _).mono ?_; rintro e w1 ⟨rfl, hk1⟩; have h1 := hd.no hk1
    (try go_wp2_with fail)
    refine hkC.out _ _ (⟨⟨h1.tx.c 0 rfl, h1.tx.c 1 rfl, h1.tx.c 2 rfl, h1.tx.c 3 rfl, h1.tx.c 4 rfl⟩, h1.tx.c 24 rfl⟩) (fun hHeld => ?_)
    clear hkC kC
    try simp only [Act.put, List.setIfInBounds_toArray, List.set_cons_zero, List.set_cons_succ]
    refine wpAnyH_ready (rs := [13]) (by kernel_rfl) (by simp) ?_
    refine AllReadyH.cons (by simp only [List.getElem?_toArray, List.getElem?_cons_succ, List.getElem?_cons_zero]; rfl) (fun kC hkC => ?_) AllReadyH.nil
    go_simp
    refine (rstripe_lit 3 1 3 0 4 _ _ rfl _).mono ?_; rintro e w2 ⟨rfl, hk2⟩; have h2 := h1.no hk2
    (try go_wp2_with fail)
    refine hkC.out _ _ (⟨⟨h2.tx.c 0 rfl, h2.tx.c 1 rfl, h2.tx.c 2 rfl, h2.tx.c 3 rfl, h2.tx.c 4 rfl⟩, h2.tx.c 24 rfl⟩) (fun hHeld => ?_)
    clear hkC kC
    try simp only [Act.put, List.setIfInBounds_toArray, List.set_cons_zero, List.set_cons_succ]
    refine wpAnyH_take (i := 14) (v := ?_) (by simp only [List.getElem?_toArray, List.getElem?_cons_succ, List.getElem?_cons_zero]; rfl) (by kernel_rfl) (by kernel_rfl) (by kernel_rfl) (by exact fun _ _ _ h => h) (Or.inl ⟨by rfl, ?_⟩) hHeld ?_
    rotate_left
    · intro w hSw; (try dsimp only at hSw); go_simp; (try with_reducible rfl)
    try simp only [Act.put, List.setIfInBounds_toArray, List.set_cons_zero, List.set_cons_succ]
    refine wpAnyH_done (by kernel_rfl) ?_ _
    have k2 : Keeps NoS w w2 := ((Keeps.refl NoS w).drew.trans hk1).trans hk2
    clear hk1 hk2 h1 hd hHeld
    have c5 := h2.tx.c 5 (u := .bool true) rfl
    have c20 := h2.tx.c 20 (u := .int .i64 0) (by rw [← HS0.out]; rfl)
    have c24 := h2.tx.c 24 (u := .int .i64 d.pl) rfl
    have hl := h2.tx.lt
    go_upto_region 21 with (go_at_call 101; refine (rload_tot c u M d.pl _ h2.mm).mono ?_; rw [HAT.out]; rintro e w3 ⟨rfl, hm, hk3⟩; have h3 := h2.mem hm hk3; have k3 : Keeps (fun g => dxO Y rv wv g ∨ own2m c u g) w w3 := k2.no.trans (kM hk3); have c25 := h3.tx.c 25 (u := .int .i64 d.got) rfl; have f25 := h3.tx.f 25; have hl3 := h3.tx.lt)
    have h4 := h3.set 25 (.int .i64 at0) (d' := { d with got := at0 }) rfl rfl rfl
    have k4 : Keeps (fun g => dxO Y rv wv g ∨ own2m c u g) w (w3.setCell ⟨Y, 25, none⟩ (.int .i64 at0)) := k3.trans (kY (keepsY w3 Y 25 (.int .i64 at0)))
    generalize w3.setCell ⟨Y, 25, none⟩ (.int .i64 at0) = w4 at *
    clear c5 c20 c24 c25 f25 hl hl3 h2 h3 k2 k3 hm hk3
    have c20 := h4.tx.c 20 (u := .int .i64 d.state) rfl
    have f20 := h4.tx.f 20
    have hl := h4.tx.lt
    go_wp2_with fail
    go_ret
    rw [HR.out]
    exact ⟨rfl, (h4.set 20 (.int .i64 2) (d' := { d with got := at0, state := 2 }) rfl rfl rfl).kp (k4.trans (kY (keepsY w4 Y 20 (.int .i64 2))))⟩
  have hrr : stepReadD M d = (M.loadI 1, if M.atP 1 = d.stamp then (endD { d with state := 3, val := d.got, R := putL 32 d.R d.pl d.got }, 1) else ({ d with look := 1, state := 0 }, 0)) := by unfold stepReadD; rw [if_neg hk, if_neg s0]
  have e0 : decide (0 < d.look) = false := decide_eq_false hk
  have HS2 := Lib.hid (show d.state = 2 by rcases hp with ⟨_, e | e⟩ | (e | ⟨e, _⟩ | e) <;> omega)
  clear hk s0 hp
  obtain ⟨sq, hsq⟩ : ∃ z, M.atP 1 = z := ⟨_, rfl⟩
  rw [hsq] at hrr
  have HSQ := Lib.hid hsq
  clear hsq
  go_enter Tryz.func62, Tryz.ntmps62
  go_upto_region 6 with fail
  have hd := h.no ((Keeps.refl NoS w).drew)
  clear c22 hl
  refine wp_region_held_drew (S := (fun w' => (w'.cell? ⟨Y, 0, none⟩ = some (.int .i64 3) ∧ w'.cell? ⟨Y, 1, none⟩ = some (.int .i64 1) ∧ w'.cell? ⟨Y, 2, none⟩ = some (.int .i64 3) ∧ w'.cell? ⟨Y, 3, none⟩ = some (.int .i64 0) ∧ w'.cell? ⟨Y, 4, none⟩ = some (.int .i64 4)) ∧ w'.cell? ⟨Y, 24, none⟩ = some (.int .i64 d.pl))) (by kernel_rfl) (⟨⟨hd.tx.c 0 rfl, hd.tx.c 1 rfl, hd.tx.c 2 rfl, hd.tx.c 3 rfl, hd.tx.c 4 rfl⟩, hd.tx.c 24 rfl⟩) (fun hHeld => ?_)
  refine wpAnyH_take (i := 0) (v := ?_) (by simp only [List.getElem?_toArray, List.getElem?_cons_succ, List.getElem?_cons_zero]; rfl) (by kernel_rfl) (by kernel_rfl) (by kernel_rfl) (by exact fun _ _ _ h => h) (Or.inl ⟨by rfl, ?_⟩) hHeld ?_
  rotate_left
  · intro w hSw; (try dsimp only at hSw); go_simp; (try with_reducible rfl)
  try simp only [Act.put, List.setIfInBounds_toArray, List.set_cons_zero, List.set_cons_succ]
  refine wpAnyH_take (i := 1) (v := ?_) (by simp only [List.getElem?_toArray, List.getElem?_cons_succ, List.getElem?_cons_zero]; rfl) (by kernel_rfl) (by kernel_rfl) (by kernel_rfl) (by exact fun _ _ _ h => h) (Or.inl ⟨by rfl, ?_⟩) hHeld ?_
  rotate_left
  · intro w hSw; (try dsimp only at hSw); go_simp; (try with_reducible rfl)
  try simp only [Act.put, List.setIfInBounds_toArray, List.set_cons_zero, List.set_cons_succ]
  refine wpAnyH_take (i := 2) (v := ?_) (by simp only [List.getElem?_toArray, List.getElem?_cons_succ, List.getElem?_cons_zero]; rfl) (by kernel_rfl) (by kernel_rfl) (by kernel_rfl) (by exact fun _ _ _ h => h) (Or.inl ⟨by rfl, ?_⟩) hHeld ?_
  rotate_left
  · intro w hSw; (try dsimp only at hSw); go_simp; (try with_reducible rfl)
  try simp only [Act.put, List.setIfInBounds_toArray, List.set_cons_zero, List.set_cons_succ]
  refine wpAnyH_take (i := 3) (v := ?_) (by simp only [List.getElem?_toArray, List.getElem?_cons_succ, List.getElem?_cons_zero]; rfl) (by kernel_rfl) (by kernel_rfl) (by kernel_rfl) (by exact fun _ _ _ h => h) (Or.inl ⟨by rfl, ?_⟩) hHeld ?_
  rotate_left
  · intro w hSw; (try dsimp only at hSw); go_simp; (try with_reducible rfl)
  try simp only [Act.put, List.setIfInBounds_toArray, List.set_cons_zero, List.set_cons_succ]
  refine wpAnyH_take (i := 4) (v := ?_) (by simp only [List.getElem?_toArray, List.getElem?_cons_succ, List.getElem?_cons_zero]; rfl) (by kernel_rfl) (by kernel_rfl) (by kernel_rfl) (by exact fun _ _ _ h => h) (Or.inl ⟨by rfl, ?_⟩) hHeld ?_
  rotate_left
  · intro w hSw; (try dsimp only at hSw); go_simp; (try with_reducible rfl)
  try simp only [Act.put, List.setIfInBounds_toArray, List.set_cons_zero, List.set_cons_succ]
  refine wpAnyH_take (i := 5) (v := ?_) (by simp only [List.getElem?_toArray, List.getElem?_cons_succ, List.getElem?_cons_zero]; rfl) (by kernel_rfl) (by kernel_rfl) (by kernel_rfl) (by exact fun _ _ _ h => h) (Or.inl ⟨by rfl, ?_⟩) hHeld ?_
  rotate_left
  · intro w hSw; (try dsimp only at hSw); go_simp; (try with_reducible rfl)
  try simp only [Act.put, List.setIfInBounds_toArray, List.set_cons_zero, List.set_cons_succ]
  refine wpAnyH_take (i := 6) (v := ?_) (by simp only [List.getElem?_toArray, List.getElem?_cons_succ, List.getElem?_cons_zero]; rfl) (by kernel_rfl) (by kernel_rfl) (by kernel_rfl) (by exact fun _ _ _ h => h) (Or.inl ⟨by rfl, ?_⟩) hHeld ?_
  rotate_left
  · intro w hSw; (try dsimp only at hSw); go_simp; (try with_reducible rfl)
  try simp only [Act.put, List.setIfInBounds_toArray, List.set_cons_zero, List.set_cons_succ]
  refine wpAnyH_take (i := 7) (v := ?_) (by simp only [List.getElem?_toArray, List.getElem?_cons_succ, List.getElem?_cons_zero]; rfl) (by kernel_rfl) (by kernel_rfl) (by kernel_rfl) (by exact fun _ _ _ h => h) (Or.inl ⟨by rfl, ?_⟩) hHeld ?_
  rotate_left
  · intro w hSw; (try dsimp only at hSw); go_simp; (try with_reducible rfl)
  try simp only [Act.put, List.setIfInBounds_toArray, List.set_cons_zero, List.set_cons_succ]
  refine wpAnyH_take (i := 8) (v := ?_) (by simp only [List.getElem?_toArray, List.getElem?_cons_succ, List.getElem?_cons_zero]; rfl) (by kernel_rfl) (by kernel_rfl) (by kernel_rfl) (by exact fun _ _ _ h => h) (Or.inl ⟨by rfl, ?_⟩) hHeld ?_
  rotate_left
  · intro w hSw; (try dsimp only at hSw); go_simp; (try with_reducible rfl)
  try simp only [Act.put, List.setIfInBounds_toArray, List.set_cons_zero, List.set_cons_succ]
  refine wpAnyH_take (i := 9) (v := ?_) (by simp only [List.getElem?_toArray, List.getElem?_cons_succ, List.getElem?_cons_zero]; rfl) (by kernel_rfl) (by kernel_rfl) (by kernel_rfl) (by exact fun _ _ _ h => h) (Or.inl ⟨by rfl, ?_⟩) hHeld ?_
  rotate_left
  · intro w hSw; (try dsimp only at hSw); go_simp; (try with_reducible rfl)
  try simp only [Act.put, List.setIfInBounds_toArray, List.set_cons_zero, List.set_cons_succ]
  refine wpAnyH_take (i := 10) (v := ?_) (by simp only [List.getElem?_toArray, List.getElem?_cons_succ, List.getElem?_cons_zero]; rfl) (by kernel_rfl) (by kernel_rfl) (by kernel_rfl) (by exact fun _ _ _ h => h) (Or.inl ⟨by rfl, ?_⟩) hHeld ?_
  rotate_left
  · intro w hSw; (try dsimp only at hSw); go_simp; (try with_reducible rfl)
  try simp only [Act.put, List.setIfInBounds_toArray, List.set_cons_zero, List.set_cons_succ]
  refine wpAnyH_take (i := 11) (v := ?_) (by simp only [List.getElem?_toArray, List.getElem?_cons_succ, List.getElem?_cons_zero]; rfl) (by kernel_rfl) (by kernel_rfl) (by kernel_rfl) (by exact fun _ _ _ h => h) (Or.inl ⟨by rfl, ?_⟩) hHeld ?_
  rotate_left
  · intro w hSw; (try dsimp only at hSw); go_simp; (try with_reducible rfl)
  try simp only [Act.put, List.setIfInBounds_toArray, List.set_cons_zero, List.set_cons_succ]
  refine wpAnyH_ready (rs := [12]) (by kernel_rfl) (by simp) ?_
  refine AllReadyH.cons (by simp only [List.getElem?_toArray, List.getElem?_cons_succ, List.getElem?_cons_zero]; rfl) (fun kC hkC => ?_) AllReadyH.nil
  go_simp
  refine (rhash_lit 3 1 3 0 4 d.pl _ rfl _).mono ?_; rintro e w1 ⟨rfl, hk1⟩; have h1 := hd.no hk1
  (try go_wp2_with fail)
  refine hkC.out _ _ (⟨⟨h1.tx.c 0 rfl, h1.tx.c 1 rfl, h1.tx.c 2 rfl, h1.tx.c 3 rfl, h1.tx.c 4 rfl⟩, h1.tx.c 24 rfl⟩) (fun hHeld => ?_)
  clear hkC kC
  try simp only [Act.put, List.setIfInBounds_toArray, List.set_cons_zero, List.set_cons_succ]
  refine wpAnyH_ready (rs := [13]) (by kernel_rfl) (by simp) ?_
  refine AllReadyH.cons (by simp only [List.getElem?_toArray, List.getElem?_cons_succ, List.getElem?_cons_zero]; rfl) (fun kC hkC => ?_) AllReadyH.nil
  go_simp
  refine (rstripe_lit 3 1 3 0 4 _ _ rfl _).mono ?_; rintro e w2 ⟨rfl, hk2⟩; have h2 := h1.no hk2
  (try go_wp2_with fail)
  refine hkC.out _ _ (⟨⟨h2.tx.c 0 rfl, h2.tx.c 1 rfl, h2.tx.c 2 rfl, h2.tx.c 3 rfl, h2.tx.c 4 rfl⟩, h2.tx.c 24 rfl⟩) (fun hHeld => ?_)
  clear hkC kC
  try simp only [Act.put, List.setIfInBounds_toArray, List.set_cons_zero, List.set_cons_succ]
  refine wpAnyH_take (i := 14) (v := ?_) (by simp only [List.getElem?_toArray, List.getElem?_cons_succ, List.getElem?_cons_zero]; rfl) (by kernel_rfl) (by kernel_rfl) (by kernel_rfl) (by exact fun _ _ _ h => h) (Or.inl ⟨by rfl, ?_⟩) hHeld ?_
  rotate_left
  · intro w hSw; (try dsimp only at hSw); go_simp; (try with_reducible rfl)
  try simp only [Act.put, List.setIfInBounds_toArray, List.set_cons_zero, List.set_cons_succ]
  refine wpAnyH_done (by kernel_rfl) ?_ _
  have k2 : Keeps NoS w w2 := ((Keeps.refl NoS w).drew.trans hk1).trans hk2
  clear hk1 hk2 h1 hd hHeld
  have c5 := h2.tx.c 5 (u := .bool true) rfl
  have c0 := h2.tx.c 0 (u := .int .i64 3) rfl
  have c1 := h2.tx.c 1 (u := .int .i64 1) rfl
  have c2 := h2.tx.c 2 (u := .int .i64 3) rfl
  have c3 := h2.tx.c 3 (u := .int .i64 0) rfl
  have c4 := h2.tx.c 4 (u := .int .i64 4) rfl
  have c20 := h2.tx.c 20 (u := .int .i64 2) (by rw [← HS2.out]; rfl)
  have hl := h2.tx.lt
  go_upto_region 29 with fail
  clear c5 c20
  go_upto_region 30 with (first
    | (go_at_call 100; refine (rseq_lit 3 1 3 0 4 1 rseq1 _).mono ?_; rintro e w3 ⟨rfl, hk3⟩; have h3 := h2.no hk3)
    | (go_at_call 101; refine (rload_tot c u M 1 _ h3.mm).mono ?_; rw [HSQ.out]; rintro e w4 ⟨rfl, hm, hk4⟩; have h4 := h3.mem hm hk4))
  have k4 : Keeps (fun g => dxO Y rv wv g ∨ own2m c u g) w w4 := (k2.trans hk3).no.trans (kM hk4)
  clear c0 c1 c2 c3 c4 hl h2 h3 k2 hk3 hk4 hm
  have c5 := h4.tx.c 5 (u := .bool true) rfl
  have c29 := h4.tx.c 29 (u := .int .i64 d.stamp) rfl
  have c20 := h4.tx.c 20 (u := .int .i64 d.state) rfl
  have c22 := h4.tx.c 22 (u := .int .i64 d.look) rfl
  have f20 := h4.tx.f 20
  have f22 := h4.tx.f 22
  have hl := h4.tx.lt
  by_cases qe : sq = d.stamp
  · have HR := Lib.hid (show stepReadD M d = (M.loadI 1, (endD { d with state := 3, val := d.got, R := putL 32 d.R d.pl d.got }, 1)) by rw [hrr, if_pos qe])
    have hb1 : (sq != d.stamp) = false := by simpa using qe
    clear hrr qe
    have e3 : decide (d.i < 0) = false := decide_eq_false (by omega)
    go_upto_region 34 with fail
    have h5 := h4.set 20 (.int .i64 3) (d' := { d with state := 3 }) rfl rfl rfl
    have k5 : Keeps (fun g => dxO Y rv wv g ∨ own2m c u g) w (w4.setCell ⟨Y, 20, none⟩ (.int .i64 3)) := k4.trans (kY (keepsY w4 Y 20 (.int .i64 3)))
    generalize w4.setCell ⟨Y, 20, none⟩ (.int .i64 3) = w5 at *
    clear c5 c29 c20 c22 f20 f22 hl h4 k4
    have c14 := h5.tx.c 14 (u := .slice none 0 0) rfl
    have c21 := h5.tx.c 21 (u := .int .i64 d.i) rfl
    go_quiet (fail)
    go_upto_region 36 with fail
    have h6 := h5.no ((Keeps.refl NoS w5).drewN nq)
    have k6 := k5.drewN nq
    generalize w5.drewN nq = w6 at *
    clear c14 c21 h5 k5
    have c25 := h6.tx.c 25 (u := .int .i64 d.got) rfl
    have c28 := h6.tx.c 28 (u := .int .i64 d.val) rfl
    have f28 := h6.tx.f 28
    have hl := h6.tx.lt
    go_upto_region 37 with fail
    have h7 := h6.set 28 (.int .i64 d.got) (d' := { d with state := 3, val := d.got }) rfl rfl rfl
    have k7 : Keeps (fun g => dxO Y rv wv g ∨ own2m c u g) w (w6.setCell ⟨Y, 28, none⟩ (.int .i64 d.got)) := k6.trans (kY (keepsY w6 Y 28 (.int .i64 d.got)))
    generalize w6.setCell ⟨Y, 28, none⟩ (.int .i64 d.got) = w7 at *
    clear c25 c28 f28 hl h6 k6
    have c25 := h7.tx.c 25 (u := .int .i64 d.got) rfl
    have c5 := h7.tx.c 5 (u := .bool true) rfl
    go_upto_region 40 with fail
    have hd := h7.no ((Keeps.refl NoS w7).drew)
    clear c25 c5
    refine wp_region_held_drew (S := (fun w' => w'.cell? ⟨Y, 24, none⟩ = some (.int .i64 d.pl))) (by kernel_rfl) ((hd.tx.c 24 rfl)) (fun hHeld => ?_)
    refine wpAnyH_take (i := 0) (v := ?_) (by simp only [List.getElem?_toArray, List.getElem?_cons_succ, List.getElem?_cons_zero]; rfl) (by kernel_rfl) (by kernel_rfl) (by kernel_rfl) (by exact fun _ _ _ h => h) (Or.inl ⟨by rfl, ?_⟩) hHeld ?_
    rotate_left
    · intro w hSw; (try dsimp only at hSw); go_simp; (try with_reducible rfl)
    try simp only [Act.put, List.setIfInBounds_toArray, List.set_cons_zero, List.set_cons_succ]
    refine wpAnyH_take (i := 1) (v := ?_) (by simp only [List.getElem?_toArray, List.getElem?_cons_succ, List.getElem?_cons_zero]; rfl) (by kernel_rfl) (by kernel_rfl) (by kernel_rfl) (by exact fun _ _ _ h => h) (Or.inl ⟨by rfl, ?_⟩) hHeld ?_
    rotate_left
    · intro w hSw; (try dsimp only at hSw); go_simp; (try with_reducible rfl)
    try simp only [Act.put, List.setIfInBounds_toArray, List.set_cons_zero, List.set_cons_succ]
    refine wpAnyH_take (i := 2) (v := ?_) (by simp only [List.getElem?_toArray, List.getElem?_cons_succ, List.getElem?_cons_zero]; rfl) (by kernel_rfl) (by kernel_rfl) (by kernel_rfl) (by exact fun _ _ _ h => h) (Or.inl ⟨by rfl, ?_⟩) hHeld ?_
    rotate_left
    · intro w hSw; (try dsimp only at hSw); go_simp; (try with_reducible rfl)
    try simp only [Act.put, List.setIfInBounds_toArray, List.set_cons_zero, List.set_cons_succ]
    refine wpAnyH_take (i := 3) (v := ?_) (by simp only [List.getElem?_toArray, List.getElem?_cons_succ, List.getElem?_cons_zero]; rfl) (by kernel_rfl) (by kernel_rfl) (by kernel_rfl) (by exact fun _ _ _ h => h) (Or.inl ⟨by rfl, ?_⟩) hHeld ?_
    rotate_left
    · intro w hSw; (try dsimp only at hSw); go_simp; (try with_reducible rfl)
    try simp only [Act.put, List.setIfInBounds_toArray, List.set_cons_zero, List.set_cons_succ]
    refine wpAnyH_take (i := 4) (v := ?_) (by simp only [List.getElem?_toArray, List.getElem?_cons_succ, List.getElem?_cons_zero]; rfl) (by kernel_rfl) (by kernel_rfl) (by kernel_rfl) (by exact fun _ _ _ h => h) (Or.inl ⟨by rfl, ?_⟩) hHeld ?_
    rotate_left
    · intro w hSw; (try dsimp only at hSw); go_simp; (try with_reducible rfl)
    try simp only [Act.put, List.setIfInBounds_toArray, List.set_cons_zero, List.set_cons_succ]
    refine wpAnyH_take (i := 5) (v := ?_) (by simp only [List.getElem?_toArray, List.getElem?_cons_succ, List.getElem?_cons_zero]; rfl) (by kernel_rfl) (by kernel_rfl) (by kernel_rfl) (by exact fun _ _ _ h => h) (Or.inl ⟨by rfl, ?_⟩) hHeld ?_
    rotate_left
    · intro w hSw; (try dsimp only at hSw); go_simp; (try with_reducible rfl)
    try simp only [Act.put, List.setIfInBounds_toArray, List.set_cons_zero, List.set_cons_succ]
    refine wpAnyH_take (i := 6) (v := ?_) (by simp only [List.getElem?_toArray, List.getElem?_cons_succ, List.getElem?_cons_zero]; rfl) (by kernel_rfl) (by kernel_rfl) (by kernel_rfl) (by exact fun _ _ _ h => h) (Or.inl ⟨by rfl, ?_⟩) hHeld ?_
    rotate_left
    · intro w hSw; (try dsimp only at hSw); go_simp; (try with_reducible rfl)
    try simp only [Act.put, List.setIfInBounds_toArray, List.set_cons_zero, List.set_cons_succ]
    refine wpAnyH_take (i := 7) (v := ?_) (by simp only [List.getElem?_toArray, List.getElem?_cons_succ, List.getElem?_cons_zero]; rfl) (by kernel_rfl) (by kernel_rfl) (by kernel_rfl) (by exact fun _ _ _ h => h) (Or.inl ⟨by rfl, ?_⟩) hHeld ?_
    rotate_left
    · intro w hSw; (try dsimp only at hSw); go_simp; (try with_reducible rfl)
    try simp only [Act.put, List.setIfInBounds_toArray, List.set_cons_zero, List.set_cons_succ]
    refine wpAnyH_take (i := 9) (v := ?_) (by simp only [List.getElem?_toArray, List.getElem?_cons_succ, List.getElem?_cons_zero]; rfl) (by kernel_rfl) (by kernel_rfl) (by kernel_rfl) (by exact fun _ _ _ h => h) (Or.inl ⟨by rfl, ?_⟩) hHeld ?_
    rotate_left
    · intro w hSw; (try dsimp only at hSw); go_simp; (try with_reducible rfl)
    try simp only [Act.put, List.setIfInBounds_toArray, List.set_cons_zero, List.set_cons_succ]
    refine wpAnyH_ready (rs := [8]) (by kernel_rfl) (by simp) ?_
    refine AllReadyH.cons (by simp only [List.getElem?_toArray, List.getElem?_cons_succ, List.getElem?_cons_zero]; rfl) (fun kC hkC => ?_) AllReadyH.nil
    go_simp
    refine (dkey_any hd d.pl).mono ?_; rintro e w8 ⟨rfl, hw8⟩; subst hw8
    (try go_wp2_with fail)
    refine hkC.out _ _ ((hd.tx.c 24 rfl)) (fun hHeld => ?_)
    clear hkC kC
    try simp only [Act.put, List.setIfInBounds_toArray, List.set_cons_zero, List.set_cons_succ]
    refine wpAnyH_ready (rs := [10]) (by kernel_rfl) (by simp) ?_
    refine AllReadyH.cons (by simp only [List.getElem?_toArray, List.getElem?_cons_succ, List.getElem?_cons_zero]; rfl) (fun kC hkC => ?_) AllReadyH.nil
    go_simp
    refine (drput_any hd hrl d.pl d.got).mono ?_; rintro e w9 ⟨⟨b, rfl⟩, hP⟩; obtain ⟨rv', wv', h9, k9, g9⟩ := hP
    (try go_wp2_with fail)
    refine hkC.out _ _ ((h9.tx.c 24 rfl)) (fun hHeld => ?_)
    clear hkC kC
    try simp only [Act.put, List.setIfInBounds_toArray, List.set_cons_zero, List.set_cons_succ]
    refine wpAnyH_done (by kernel_rfl) ?_ _
    clear hHeld
    go_wp2_with (go_at_call 102; refine (dend_any h9).mono ?_; rintro e w10 ⟨rfl, h10, k10⟩)
    go_ret
    rw [HR.out]
    exact ⟨rfl, DXP.then (k7.drew) ⟨rv', wv', h10, k9.trans' k10 (fun i hi e => by
      have e' : i = Y := e
      exact .inl (.inl e')), g9⟩⟩
  · have HR := Lib.hid (show stepReadD M d = (M.loadI 1, ({ d with look := 1, state := 0 }, 0)) by rw [hrr, if_neg qe])
    have hb1 : (sq != d.stamp) = true := by simpa using qe
    clear hrr qe
    go_wp2_with fail
    go_ret
    rw [HR.out]
    exact ⟨rfl, ((h4.set 22 (.int .i64 1) (d' := { d with look := 1 }) rfl rfl rfl).set 20 (.int .i64 0) (d' := { d with look := 1, state := 0 }) rfl rfl rfl).kp (k4.trans (kY ((keepsY w4 Y 22 (.int .i64 1)).trans (keepsY _ Y 20 (.int .i64 0)))))⟩
set_option maxHeartbeats 4000000 in
set_option maxRecDepth 100000 in
theorem dstepUndo_any {w : World} {c Y : Nat} {u rv wv : Value} {M : MemS} {d : DxS} (h : DX w c u M Y rv wv d) (hi : 0 ≤ d.i) : Calls Tryz.prog 65 #[.pointer (some ⟨Y, 0, none⟩), .pointer (some ⟨c, 0, none⟩)] w fun e w' => e = .returned (.int .i64 (stepUndoD M d).2.2) ∧ DXP w w' c u (stepUndoD M d).1 Y rv wv (stepUndoD M d).2.1 := by
  have c21 := h.tx.c 21 (u := .int .i64 d.i) rfl
  have c33 := h.tx.c 33 (u := .slice none 0 0) rfl
  have hl := h.tx.lt
  have e3 : decide (d.i < 0) = false := decide_eq_false (by omega)
  have HPH := Lib.hid (show threadP ⟨3, 1, 3, 0, 4⟩ d.th 0 = phD d from rfl)
  cases qo : d.locked with
  | true =>
    have HLO := Lib.hid qo
    have HRR := Lib.hid (show stepUndoD M d = (M.storeI 1 d.stamp, undoneD { d with locked := false }) by unfold stepUndoD; rw [if_pos qo])
    clear qo
    go_enter Tryz.func65, Tryz.ntmps65
    go_upto_region 3 with fail
    go_quiet (fail)
    go_upto_region 6 with fail
    have h1 := h.no ((Keeps.refl NoS w).drewN nq)
    have k1 : Keeps NoS w (w.drewN nq) := (Keeps.refl NoS w).drewN nq
    generalize w.drewN nq = w1 at *
    clear c21 c33 hl
    have c18 := h1.tx.c 18 (u := .bool true) (by rw [← HLO.out]; rfl)
    go_upto_region 7 with fail
    have hd := h1.no ((Keeps.refl NoS w1).drew)
    clear c18
    refine wp_region_held_drew (S := (fun w' => (w'.cell? ⟨Y, 0, none⟩ = some (.int .i64 3) ∧ w'.cell? ⟨Y, 1, none⟩ = some (.int .i64 1) ∧ w'.cell? ⟨Y, 2, none⟩ = some (.int .i64 3) ∧ w'.cell? ⟨Y, 3, none⟩ = some (.int .i64 0) ∧ w'.cell? ⟨Y, 4, none⟩ = some (.int .i64 4)) ∧ w'.cell? ⟨Y, 29, none⟩ = some (.int .i64 d.stamp))) (by kernel_rfl) (⟨⟨hd.tx.c 0 rfl, hd.tx.c 1 rfl, hd.tx.c 2 rfl, hd.tx.c 3 rfl, hd.tx.c 4 rfl⟩, hd.tx.c 29 rfl⟩) (fun hHeld => ?_)
    refine wpAnyH_take (i := 0) (v := ?_) (by simp only [List.getElem?_toArray, List.getElem?_cons_succ, List.getElem?_cons_zero]; rfl) (by kernel_rfl) (by kernel_rfl) (by kernel_rfl) (by exact fun _ _ _ h => h) (Or.inl ⟨by rfl, ?_⟩) hHeld ?_
    rotate_left
    · intro w hSw; (try dsimp only at hSw); go_simp; (try with_reducible rfl)
    try simp only [Act.put, List.setIfInBounds_toArray, List.set_cons_zero, List.set_cons_succ]
    refine wpAnyH_take (i := 1) (v := ?_) (by simp only [List.getElem?_toArray, List.getElem?_cons_succ, List.getElem?_cons_zero]; rfl) (by kernel_rfl) (by kernel_rfl) (by kernel_rfl) (by exact fun _ _ _ h => h) (Or.inl ⟨by rfl, ?_⟩) hHeld ?_
    rotate_left
    · intro w hSw; (try dsimp only at hSw); go_simp; (try with_reducible rfl)
    try simp only [Act.put, List.setIfInBounds_toArray, List.set_cons_zero, List.set_cons_succ]
    refine wpAnyH_take (i := 2) (v := ?_) (by simp only [List.getElem?_toArray, List.getElem?_cons_succ, List.getElem?_cons_zero]; rfl) (by kernel_rfl) (by kernel_rfl) (by kernel_rfl) (by exact fun _ _ _ h => h) (Or.inl ⟨by rfl, ?_⟩) hHeld ?_
    rotate_left
    · intro w hSw; (try dsimp only at hSw); go_simp; (try with_reducible rfl)
    try simp only [Act.put, List.setIfInBounds_toArray, List.set_cons_zero, List.set_cons_succ]
    refine wpAnyH_take (i := 3) (v := ?_) (by simp only [List.getElem?_toArray, List.getElem?_cons_succ, List.getElem?_cons_zero]; rfl) (by kernel_rfl) (by kernel_rfl) (by kernel_rfl) (by exact fun _ _ _ h => h) (Or.inl ⟨by rfl, ?_⟩) hHeld ?_
    rotate_left
    · intro w hSw; (try dsimp only at hSw); go_simp; (try with_reducible rfl)
    try simp only [Act.put, List.setIfInBounds_toArray, List.set_cons_zero, List.set_cons_succ]
    refine wpAnyH_take (i := 4) (v := ?_) (by simp only [List.getElem?_toArray, List.getElem?_cons_succ, List.getElem?_cons_zero]; rfl) (by kernel_rfl) (by kernel_rfl) (by kernel_rfl) (by exact fun _ _ _ h => h) (Or.inl ⟨by rfl, ?_⟩) hHeld ?_
    rotate_left
    · intro w hSw; (try dsimp only at hSw); go_simp; (try with_reducible rfl)
    try simp only [Act.put, List.setIfInBounds_toArray, List.set_cons_zero, List.set_cons_succ]
    refine wpAnyH_take (i := 6) (v := ?_) (by simp only [List.getElem?_toArray, List.getElem?_cons_succ, List.getElem?_cons_zero]; rfl) (by kernel_rfl) (by kernel_rfl) (by kernel_rfl) (by exact fun _ _ _ h => h) (Or.inl ⟨by rfl, ?_⟩) hHeld ?_
    rotate_left
    · intro w hSw; (try dsimp only at hSw); go_simp; (try with_reducible rfl)
    try simp only [Act.put, List.setIfInBounds_toArray, List.set_cons_zero, List.set_cons_succ]
    refine wpAnyH_take (i := 7) (v := ?_) (by simp only [List.getElem?_toArray, List.getElem?_cons_succ, List.getElem?_cons_zero]; rfl) (by kernel_rfl) (by kernel_rfl) (by kernel_rfl) (by exact fun _ _ _ h => h) (Or.inl ⟨by rfl, ?_⟩) hHeld ?_
    rotate_left
    · intro w hSw; (try dsimp only at hSw); go_simp; (try with_reducible rfl)
    try simp only [Act.put, List.setIfInBounds_toArray, List.set_cons_zero, List.set_cons_succ]
    refine wpAnyH_take (i := 8) (v := ?_) (by simp only [List.getElem?_toArray, List.getElem?_cons_succ, List.getElem?_cons_zero]; rfl) (by kernel_rfl) (by kernel_rfl) (by kernel_rfl) (by exact fun _ _ _ h => h) (Or.inl ⟨by rfl, ?_⟩) hHeld ?_
    rotate_left
    · intro w hSw; (try dsimp only at hSw); go_simp; (try with_reducible rfl)
    try simp only [Act.put, List.setIfInBounds_toArray, List.set_cons_zero, List.set_cons_succ]
    refine wpAnyH_take (i := 9) (v := ?_) (by simp only [List.getElem?_toArray, List.getElem?_cons_succ, List.getElem?_cons_zero]; rfl) (by kernel_rfl) (by kernel_rfl) (by kernel_rfl) (by exact fun _ _ _ h => h) (Or.inl ⟨by rfl, ?_⟩) hHeld ?_
    rotate_left
    · intro w hSw; (try dsimp only at hSw); go_simp; (try with_reducible rfl)
    try simp only [Act.put, List.setIfInBounds_toArray, List.set_cons_zero, List.set_cons_succ]
    refine wpAnyH_ready (rs := [5]) (by kernel_rfl) (by simp) ?_
    refine AllReadyH.cons (by simp only [List.getElem?_toArray, List.getElem?_cons_succ, List.getElem?_cons_zero]; rfl) (fun kC hkC => ?_) AllReadyH.nil
    go_simp
    refine (rseq_lit 3 1 3 0 4 1 rseq1 _).mono ?_; rintro e w' ⟨rfl, hk2⟩; have h2 := hd.no hk2
    (try go_wp2_with fail)
    refine hkC.out _ _ (⟨⟨h2.tx.c 0 rfl, h2.tx.c 1 rfl, h2.tx.c 2 rfl, h2.tx.c 3 rfl, h2.tx.c 4 rfl⟩, h2.tx.c 29 rfl⟩) (fun hHeld => ?_)
    clear hkC kC
    try simp only [Act.put, List.setIfInBounds_toArray, List.set_cons_zero, List.set_cons_succ]
    refine wpAnyH_ready (rs := [10]) (by kernel_rfl) (by simp) ?_
    refine AllReadyH.cons (by simp only [List.getElem?_toArray, List.getElem?_cons_succ, List.getElem?_cons_zero]; rfl) (fun kC hkC => ?_) AllReadyH.nil
    go_simp
    (try rw [wrap_w]); refine (rstore_tot c u M 1 d.stamp _ h2.mm).mono ?_; rintro e w' ⟨rfl, hm, hk3⟩; have h3 := h2.mem hm hk3
    (try go_wp2_with fail)
    refine hkC.out _ _ (⟨⟨h3.tx.c 0 rfl, h3.tx.c 1 rfl, h3.tx.c 2 rfl, h3.tx.c 3 rfl, h3.tx.c 4 rfl⟩, h3.tx.c 29 rfl⟩) (fun hHeld => ?_)
    clear hkC kC
    try simp only [Act.put, List.setIfInBounds_toArray, List.set_cons_zero, List.set_cons_succ]
    refine wpAnyH_done (by kernel_rfl) ?_ _
    have k3 := ((k1.drew).trans hk2).no.trans (kM (rv := rv) (wv := wv) (Y := Y) hk3)
    clear hm hk2 hk3 h1 h2 hd k1 hHeld
    have c18 := h3.tx.c 18 (u := .bool d.locked) rfl
    have f18 := h3.tx.f 18
    have hl := h3.tx.lt
    go_upto_region 9 with fail
    have h4 := h3.set 18 (.bool false) (d' := { d with locked := false }) rfl rfl rfl
    have k4 := k3.trans (kY (rv := rv) (wv := wv) (c := c) (u := u) (keepsY _ Y 18 (.bool false)))
    generalize World.setCell _ ⟨Y, 18, none⟩ (.bool false) = w4 at *
    clear c18 f18 hl h3 k3
    obtain ⟨d4, hd4⟩ : ∃ z, z = ({ d with locked := false } : DxS) := ⟨_, rfl⟩
    rw [← hd4] at h4 HRR
    have hi4 : 0 ≤ d4.i := by rw [hd4]; exact hi
    clear hd4
    have e4 : decide (d4.i < 0) = false := decide_eq_false (by omega)
    have c21 := h4.tx.c 21 (u := .int .i64 d4.i) rfl
    have c33 := h4.tx.c 33 (u := .slice none 0 0) rfl
    have c18 := h4.tx.c 18 (u := .bool d4.locked) rfl
    have c17 := h4.tx.c 17 (u := .bool d4.phased) rfl
    cases q : d4.locked with
    | true =>
      have HUN := Lib.hid (show undoneD d4 = (d4, 0) by unfold undoneD; rw [q]; rfl)
      rw [q] at c18
      clear q
      go_quiet (fail)
      go_wp2_with fail
      go_ret
      rw [HRR.out, HUN.out]
      exact ⟨rfl, (h4.no ((Keeps.refl NoS _).drewN _)).kp (k4.drewN _)⟩
    | false =>
      rw [q] at c18
      cases q2 : d4.phased with
      | true =>
        have HUN := Lib.hid (show undoneD d4 = (d4, 0) by unfold undoneD; rw [q, q2]; rfl)
        rw [q2] at c17
        clear q q2
        go_quiet (fail)
        go_wp2_with fail
        go_ret
        rw [HRR.out, HUN.out]
        exact ⟨rfl, (h4.no ((Keeps.refl NoS _).drewN _)).kp (k4.drewN _)⟩
      | false =>
        have HUN := Lib.hid (show undoneD d4 = (endD d4, 2) by unfold undoneD; rw [q, q2]; rfl)
        rw [q2] at c17
        clear q q2
        go_quiet (fail)
        go_upto_region 11 with fail
        have h5 := h4.no ((Keeps.refl NoS w4).drewN nq)
        have k5 := k4.drewN nq
        generalize w4.drewN nq = w5 at *
        clear c21 c33 c18 c17 h4 k4
        have c19 := h5.tx.c 19 (u := .int .i64 d4.job) rfl
        have f19 := h5.tx.f 19
        have hl := h5.tx.lt
        go_wp2_with fail
        go_ret
        rw [HRR.out, HUN.out]
        exact ⟨rfl, (h5.set 19 (.int .i64 0) (d' := endD d4) rfl rfl rfl).kp (k5.trans (kY (keepsY w5 Y 19 (.int .i64 0))))⟩
  | false =>
    have HLO := Lib.hid qo
    have HRR := Lib.hid (show stepUndoD M d = (M.storeI (phD d) 0, undoneD { d with phased := false }) by unfold stepUndoD; rw [if_neg (by rw [qo]; decide)])
    clear qo
    go_enter Tryz.func65, Tryz.ntmps65
    go_upto_region 3 with fail
    go_quiet (fail)
    go_upto_region 6 with fail
    have h1 := h.no ((Keeps.refl NoS w).drewN nq)
    have k1 : Keeps NoS w (w.drewN nq) := (Keeps.refl NoS w).drewN nq
    generalize w.drewN nq = w1 at *
    clear c21 c33 hl
    have c18 := h1.tx.c 18 (u := .bool false) (by rw [← HLO.out]; rfl)
    go_upto_region 1 with fail
    have hd := h1.no ((Keeps.refl NoS w1).drew)
    clear c18
    refine wp_region_held_drew (S := (fun w' => (w'.cell? ⟨Y, 0, none⟩ = some (.int .i64 3) ∧ w'.cell? ⟨Y, 1, none⟩ = some (.int .i64 1) ∧ w'.cell? ⟨Y, 2, none⟩ = some (.int .i64 3) ∧ w'.cell? ⟨Y, 3, none⟩ = some (.int .i64 0) ∧ w'.cell? ⟨Y, 4, none⟩ = some (.int .i64 4)) ∧ w'.cell? ⟨Y, 6, none⟩ = some (.int .i64 d.th))) (by kernel_rfl) (⟨⟨hd.tx.c 0 rfl, hd.tx.c 1 rfl, hd.tx.c 2 rfl, hd.tx.c 3 rfl, hd.tx.c 4 rfl⟩, hd.tx.c 6 rfl⟩) (fun hHeld => ?_)
    refine wpAnyH_take (i := 0) (v := ?_) (by simp only [List.getElem?_toArray, List.getElem?_cons_succ, List.getElem?_cons_zero]; rfl) (by kernel_rfl) (by kernel_rfl) (by kernel_rfl) (by exact fun _ _ _ h => h) (Or.inl ⟨by rfl, ?_⟩) hHeld ?_
    rotate_left
    · intro w hSw; (try dsimp only at hSw); go_simp; (try with_reducible rfl)
    try simp only [Act.put, List.setIfInBounds_toArray, List.set_cons_zero, List.set_cons_succ]
    refine wpAnyH_take (i := 1) (v := ?_) (by simp only [List.getElem?_toArray, List.getElem?_cons_succ, List.getElem?_cons_zero]; rfl) (by kernel_rfl) (by kernel_rfl) (by kernel_rfl) (by exact fun _ _ _ h => h) (Or.inl ⟨by rfl, ?_⟩) hHeld ?_
    rotate_left
    · intro w hSw; (try dsimp only at hSw); go_simp; (try with_reducible rfl)
    try simp only [Act.put, List.setIfInBounds_toArray, List.set_cons_zero, List.set_cons_succ]
    refine wpAnyH_take (i := 2) (v := ?_) (by simp only [List.getElem?_toArray, List.getElem?_cons_succ, List.getElem?_cons_zero]; rfl) (by kernel_rfl) (by kernel_rfl) (by kernel_rfl) (by exact fun _ _ _ h => h) (Or.inl ⟨by rfl, ?_⟩) hHeld ?_
    rotate_left
    · intro w hSw; (try dsimp only at hSw); go_simp; (try with_reducible rfl)
    try simp only [Act.put, List.setIfInBounds_toArray, List.set_cons_zero, List.set_cons_succ]
    refine wpAnyH_take (i := 3) (v := ?_) (by simp only [List.getElem?_toArray, List.getElem?_cons_succ, List.getElem?_cons_zero]; rfl) (by kernel_rfl) (by kernel_rfl) (by kernel_rfl) (by exact fun _ _ _ h => h) (Or.inl ⟨by rfl, ?_⟩) hHeld ?_
    rotate_left
    · intro w hSw; (try dsimp only at hSw); go_simp; (try with_reducible rfl)
    try simp only [Act.put, List.setIfInBounds_toArray, List.set_cons_zero, List.set_cons_succ]
    refine wpAnyH_take (i := 4) (v := ?_) (by simp only [List.getElem?_toArray, List.getElem?_cons_succ, List.getElem?_cons_zero]; rfl) (by kernel_rfl) (by kernel_rfl) (by kernel_rfl) (by exact fun _ _ _ h => h) (Or.inl ⟨by rfl, ?_⟩) hHeld ?_
    rotate_left
    · intro w hSw; (try dsimp only at hSw); go_simp; (try with_reducible rfl)
    try simp only [Act.put, List.setIfInBounds_toArray, List.set_cons_zero, List.set_cons_succ]
    refine wpAnyH_take (i := 5) (v := ?_) (by simp only [List.getElem?_toArray, List.getElem?_cons_succ, List.getElem?_cons_zero]; rfl) (by kernel_rfl) (by kernel_rfl) (by kernel_rfl) (by exact fun _ _ _ h => h) (Or.inl ⟨by rfl, ?_⟩) hHeld ?_
    rotate_left
    · intro w hSw; (try dsimp only at hSw); go_simp; (try with_reducible rfl)
    try simp only [Act.put, List.setIfInBounds_toArray, List.set_cons_zero, List.set_cons_succ]
    refine wpAnyH_take (i := 6) (v := ?_) (by simp only [List.getElem?_toArray, List.getElem?_cons_succ, List.getElem?_cons_zero]; rfl) (by kernel_rfl) (by kernel_rfl) (by kernel_rfl) (by exact fun _ _ _ h => h) (Or.inl ⟨by rfl, ?_⟩) hHeld ?_
    rotate_left
    · intro w hSw; (try dsimp only at hSw); go_simp; (try with_reducible rfl)
    try simp only [Act.put, List.setIfInBounds_toArray, List.set_cons_zero, List.set_cons_succ]
    refine wpAnyH_take (i := 7) (v := ?_) (by simp only [List.getElem?_toArray, List.getElem?_cons_succ, List.getElem?_cons_zero]; rfl) (by kernel_rfl) (by kernel_rfl) (by kernel_rfl) (by exact fun _ _ _ h => h) (Or.inl ⟨by rfl, ?_⟩) hHeld ?_
    rotate_left
    · intro w hSw; (try dsimp only at hSw); go_simp; (try with_reducible rfl)
    try simp only [Act.put, List.setIfInBounds_toArray, List.set_cons_zero, List.set_cons_succ]
    refine wpAnyH_take (i := 8) (v := ?_) (by simp only [List.getElem?_toArray, List.getElem?_cons_succ, List.getElem?_cons_zero]; rfl) (by kernel_rfl) (by kernel_rfl) (by kernel_rfl) (by exact fun _ _ _ h => h) (Or.inl ⟨by rfl, ?_⟩) hHeld ?_
    rotate_left
    · intro w hSw; (try dsimp only at hSw); go_simp; (try with_reducible rfl)
    try simp only [Act.put, List.setIfInBounds_toArray, List.set_cons_zero, List.set_cons_succ]
    refine wpAnyH_ready (rs := [9]) (by kernel_rfl) (by simp) ?_
    refine AllReadyH.cons (by simp only [List.getElem?_toArray, List.getElem?_cons_succ, List.getElem?_cons_zero]; rfl) (fun kC hkC => ?_) AllReadyH.nil
    go_simp
    refine (rthread_lit 3 1 3 0 4 d.th 0 (phD d) HPH.out _).mono ?_; rintro e w' ⟨rfl, hk2⟩; have h2 := hd.no hk2
    (try go_wp2_with fail)
    refine hkC.out _ _ (⟨⟨h2.tx.c 0 rfl, h2.tx.c 1 rfl, h2.tx.c 2 rfl, h2.tx.c 3 rfl, h2.tx.c 4 rfl⟩, h2.tx.c 6 rfl⟩) (fun hHeld => ?_)
    clear hkC kC
    try simp only [Act.put, List.setIfInBounds_toArray, List.set_cons_zero, List.set_cons_succ]
    refine wpAnyH_ready (rs := [10]) (by kernel_rfl) (by simp) ?_
    refine AllReadyH.cons (by simp only [List.getElem?_toArray, List.getElem?_cons_succ, List.getElem?_cons_zero]; rfl) (fun kC hkC => ?_) AllReadyH.nil
    go_simp
    (try rw [wrap_w]); refine (rstore_tot c u M (phD d) 0 _ h2.mm).mono ?_; rintro e w' ⟨rfl, hm, hk3⟩; have h3 := h2.mem hm hk3
    (try go_wp2_with fail)
    refine hkC.out _ _ (⟨⟨h3.tx.c 0 rfl, h3.tx.c 1 rfl, h3.tx.c 2 rfl, h3.tx.c 3 rfl, h3.tx.c 4 rfl⟩, h3.tx.c 6 rfl⟩) (fun hHeld => ?_)
    clear hkC kC
    try simp only [Act.put, List.setIfInBounds_toArray, List.set_cons_zero, List.set_cons_succ]
    refine wpAnyH_done (by kernel_rfl) ?_ _
    have k3 := ((k1.drew).trans hk2).no.trans (kM (rv := rv) (wv := wv) (Y := Y) hk3)
    clear hm hk2 hk3 h1 h2 hd k1 hHeld
    have c17 := h3.tx.c 17 (u := .bool d.phased) rfl
    have f17 := h3.tx.f 17
    have hl := h3.tx.lt
    go_upto_region 9 with fail
    have h4 := h3.set 17 (.bool false) (d' := { d with phased := false }) rfl rfl rfl
    have k4 := k3.trans (kY (rv := rv) (wv := wv) (c := c) (u := u) (keepsY _ Y 17 (.bool false)))
    generalize World.setCell _ ⟨Y, 17, none⟩ (.bool false) = w4 at *
    clear c17 f17 hl h3 k3
    obtain ⟨d4, hd4⟩ : ∃ z, z = ({ d with phased := false } : DxS) := ⟨_, rfl⟩
    rw [← hd4] at h4 HRR
    have hi4 : 0 ≤ d4.i := by rw [hd4]; exact hi
    clear hd4
    have e4 : decide (d4.i < 0) = false := decide_eq_false (by omega)
    have c21 := h4.tx.c 21 (u := .int .i64 d4.i) rfl
    have c33 := h4.tx.c 33 (u := .slice none 0 0) rfl
    have c18 := h4.tx.c 18 (u := .bool d4.locked) rfl
    have c17 := h4.tx.c 17 (u := .bool d4.phased) rfl
    cases q : d4.locked with
    | true =>
      have HUN := Lib.hid (show undoneD d4 = (d4, 0) by unfold undoneD; rw [q]; rfl)
      rw [q] at c18
      clear q
      go_quiet (fail)
      go_wp2_with fail
      go_ret
      rw [HRR.out, HUN.out]
      exact ⟨rfl, (h4.no ((Keeps.refl NoS _).drewN _)).kp (k4.drewN _)⟩
    | false =>
      rw [q] at c18
      cases q2 : d4.phased with
      | true =>
        have HUN := Lib.hid (show undoneD d4 = (d4, 0) by unfold undoneD; rw [q, q2]; rfl)
        rw [q2] at c17
        clear q q2
        go_quiet (fail)
        go_wp2_with fail
        go_ret
        rw [HRR.out, HUN.out]
        exact ⟨rfl, (h4.no ((Keeps.refl NoS _).drewN _)).kp (k4.drewN _)⟩
      | false =>
        have HUN := Lib.hid (show undoneD d4 = (endD d4, 2) by unfold undoneD; rw [q, q2]; rfl)
        rw [q2] at c17
        clear q q2
        go_quiet (fail)
        go_upto_region 11 with fail
        have h5 := h4.no ((Keeps.refl NoS w4).drewN nq)
        have k5 := k4.drewN nq
        generalize w4.drewN nq = w5 at *
        clear c21 c33 c18 c17 h4 k4
        have c19 := h5.tx.c 19 (u := .int .i64 d4.job) rfl
        have f19 := h5.tx.f 19
        have hl := h5.tx.lt
        go_wp2_with fail
        go_ret
        rw [HRR.out, HUN.out]
        exact ⟨rfl, (h5.set 19 (.int .i64 0) (d' := endD d4) rfl rfl rfl).kp (k5.trans (kY (keepsY w5 Y 19 (.int .i64 0))))⟩
set_option maxHeartbeats 4000000 in
set_option maxRecDepth 100000 in
theorem dstepCommit_any {w : World} {c Y : Nat} {u rv wv : Value} {M : MemS} {d : DxS} (h : DX w c u M Y rv wv d) (hp : (d.state = 0 ∧ d.look = 0) ∨ (d.state = 1 ∧ (d.look = 0 ∨ lookedOk d)) ∨ (d.state = 6 ∧ 0 ≤ d.i ∧ d.i < (d.W.length : Int)) ∨ d.state = 7 ∨ d.state = 8) (hrl : d.R.length ≤ 32) (hwl : d.W.length ≤ 32) : Calls Tryz.prog 64 #[.pointer (some ⟨Y, 0, none⟩), .pointer (some ⟨c, 0, none⟩)] w fun e w' => e = .returned (.int .i64 (stepCommitD M d).2.2) ∧ DXP w w' c u (stepCommitD M d).1 Y rv wv (stepCommitD M d).2.1 := by
  have hl := h.tx.lt
  by_cases s0 : d.state = 0
  · have c20 := h.tx.c 20 (u := .int .i64 0) (by rw [← s0]; rfl)
    have HPH := Lib.hid (show threadP ⟨3, 1, 3, 0, 4⟩ d.th 0 = phD d from rfl)
    have hrr : stepCommitD M d = (M.storeI (phD d) 2, if (0 : Int) < d.W.length then seatD { d with phased := true, i := 0, state := 1 } else sureD { d with phased := true, i := 0, state := 5 }) := by unfold stepCommitD; rw [if_pos s0]
    clear s0 hp
    by_cases qw : (0 : Int) < d.W.length
    · have HR := Lib.hid (show stepCommitD M d = (M.storeI (phD d) 2, seatD { d with phased := true, i := 0, state := 1 }) by rw [hrr, if_pos qw])
      clear hrr
      go_enter Tryz.func64, Tryz.ntmps64
      go_upto_region 4 with fail
      have hd := h.no ((Keeps.refl NoS w).drew)
      clear c20 hl
      refine wp_region_held_drew (S := (fun w' => (w'.cell? ⟨Y, 0, none⟩ = some (.int .i64 3) ∧ w'.cell? ⟨Y, 1, none⟩ = some (.int .i64 1) ∧ w'.cell? ⟨Y, 2, none⟩ = some (.int .i64 3) ∧ w'.cell? ⟨Y, 3, none⟩ = some (.int .i64 0) ∧ w'.cell? ⟨Y, 4, none⟩ = some (.int .i64 4)) ∧ w'.cell? ⟨Y, 6, none⟩ = some (.int .i64 d.th))) (by kernel_rfl) (⟨⟨hd.tx.c 0 rfl, hd.tx.c 1 rfl, hd.tx.c 2 rfl, hd.tx.c 3 rfl, hd.tx.c 4 rfl⟩, hd.tx.c 6 rfl⟩) (fun hHeld => ?_)
      refine wpAnyH_take (i := 0) (v := ?_) (by simp only [List.getElem?_toArray, List.getElem?_cons_succ, List.getElem?_cons_zero]; rfl) (by kernel_rfl) (by kernel_rfl) (by kernel_rfl) (by exact fun _ _ _ h => h) (Or.inl ⟨by rfl, ?_⟩) hHeld ?_
      rotate_left
      · intro w hSw; (try dsimp only at hSw); go_simp; (try with_reducible rfl)
      try simp only [Act.put, List.setIfInBounds_toArray, List.set_cons_zero, List.set_cons_succ]
      refine wpAnyH_take (i := 1) (v := ?_) (by simp only [List.getElem?_toArray, List.getElem?_cons_succ, List.getElem?_cons_zero]; rfl) (by kernel_rfl) (by kernel_rfl) (by kernel_rfl) (by exact fun _ _ _ h => h) (Or.inl ⟨by rfl, ?_⟩) hHeld ?_
      rotate_left
      · intro w hSw; (try dsimp only at hSw); go_simp; (try with_reducible rfl)
      try simp only [Act.put, List.setIfInBounds_toArray, List.set_cons_zero, List.set_cons_succ]
      refine wpAnyH_take (i := 2) (v := ?_) (by simp only [List.getElem?_toArray, List.getElem?_cons_succ, List.getElem?_cons_zero]; rfl) (by kernel_rfl) (by kernel_rfl) (by kernel_rfl) (by exact fun _ _ _ h => h) (Or.inl ⟨by rfl, ?_⟩) hHeld ?_
      rotate_left
      · intro w hSw; (try dsimp only at hSw); go_simp; (try with_reducible rfl)
      try simp only [Act.put, List.setIfInBounds_toArray, List.set_cons_zero, List.set_cons_succ]
      refine wpAnyH_take (i := 3) (v := ?_) (by simp only [List.getElem?_toArray, List.getElem?_cons_succ, List.getElem?_cons_zero]; rfl) (by kernel_rfl) (by kernel_rfl) (by kernel_rfl) (by exact fun _ _ _ h => h) (Or.inl ⟨by rfl, ?_⟩) hHeld ?_
      rotate_left
      · intro w hSw; (try dsimp only at hSw); go_simp; (try with_reducible rfl)
      try simp only [Act.put, List.setIfInBounds_toArray, List.set_cons_zero, List.set_cons_succ]
      refine wpAnyH_take (i := 4) (v := ?_) (by simp only [List.getElem?_toArray, List.getElem?_cons_succ, List.getElem?_cons_zero]; rfl) (by kernel_rfl) (by kernel_rfl) (by kernel_rfl) (by exact fun _ _ _ h => h) (Or.inl ⟨by rfl, ?_⟩) hHeld ?_
      rotate_left
      · intro w hSw; (try dsimp only at hSw); go_simp; (try with_reducible rfl)
      try simp only [Act.put, List.setIfInBounds_toArray, List.set_cons_zero, List.set_cons_succ]
      refine wpAnyH_take (i := 5) (v := ?_) (by simp only [List.getElem?_toArray, List.getElem?_cons_succ, List.getElem?_cons_zero]; rfl) (by kernel_rfl) (by kernel_rfl) (by kernel_rfl) (by exact fun _ _ _ h => h) (Or.inl ⟨by rfl, ?_⟩) hHeld ?_
      rotate_left
      · intro w hSw; (try dsimp only at hSw); go_simp; (try with_reducible rfl)
      try simp only [Act.put, List.setIfInBounds_toArray, List.set_cons_zero, List.set_cons_succ]
      refine wpAnyH_take (i := 6) (v := ?_) (by simp only [List.getElem?_toArray, List.getElem?_cons_succ, List.getElem?_cons_zero]; rfl) (by kernel_rfl) (by kernel_rfl) (by kernel_rfl) (by exact fun _ _ _ h => h) (Or.inl ⟨by rfl, ?_⟩) hHeld ?_
      rotate_left
      · intro w hSw; (try dsimp only at hSw); go_simp; (try with_reducible rfl)
      try simp only [Act.put, List.setIfInBounds_toArray, List.set_cons_zero, List.set_cons_succ]
      refine wpAnyH_take (i := 7) (v := ?_) (by simp only [List.getElem?_toArray, List.getElem?_cons_succ, List.getElem?_cons_zero]; rfl) (by kernel_rfl) (by kernel_rfl) (by kernel_rfl) (by exact fun _ _ _ h => h) (Or.inl ⟨by rfl, ?_⟩) hHeld ?_
      rotate_left
      · intro w hSw; (try dsimp only at hSw); go_simp; (try with_reducible rfl)
      try simp only [Act.put, List.setIfInBounds_toArray, List.set_cons_zero, List.set_cons_succ]
      refine wpAnyH_take (i := 8) (v := ?_) (by simp only [List.getElem?_toArray, List.getElem?_cons_succ, List.getElem?_cons_zero]; rfl) (by kernel_rfl) (by kernel_rfl) (by kernel_rfl) (by exact fun _ _ _ h => h) (Or.inl ⟨by rfl, ?_⟩) hHeld ?_
      rotate_left
      · intro w hSw; (try dsimp only at hSw); go_simp; (try with_reducible rfl)
      try simp only [Act.put, List.setIfInBounds_toArray, List.set_cons_zero, List.set_cons_succ]
      refine wpAnyH_ready (rs := [9]) (by kernel_rfl) (by simp) ?_
      refine AllReadyH.cons (by simp only [List.getElem?_toArray, List.getElem?_cons_succ, List.getElem?_cons_zero]; rfl) (fun kC hkC => ?_) AllReadyH.nil
      go_simp
      refine (rthread_lit 3 1 3 0 4 d.th 0 (phD d) HPH.out _).mono ?_; rintro e w' ⟨rfl, hk1⟩; have h1 := hd.no hk1
      (try go_wp2_with fail)
      refine hkC.out _ _ (⟨⟨h1.tx.c 0 rfl, h1.tx.c 1 rfl, h1.tx.c 2 rfl, h1.tx.c 3 rfl, h1.tx.c 4 rfl⟩, h1.tx.c 6 rfl⟩) (fun hHeld => ?_)
      clear hkC kC
      try simp only [Act.put, List.setIfInBounds_toArray, List.set_cons_zero, List.set_cons_succ]
      refine wpAnyH_ready (rs := [10]) (by kernel_rfl) (by simp) ?_
      refine AllReadyH.cons (by simp only [List.getElem?_toArray, List.getElem?_cons_succ, List.getElem?_cons_zero]; rfl) (fun kC hkC => ?_) AllReadyH.nil
      go_simp
      (try rw [wrap_w]); refine (rstore_tot c u M (phD d) 2 _ h1.mm).mono ?_; rintro e w3 ⟨rfl, hm, hk3⟩; have h3 := h1.mem hm hk3
      (try go_wp2_with fail)
      refine hkC.out _ _ (⟨⟨h3.tx.c 0 rfl, h3.tx.c 1 rfl, h3.tx.c 2 rfl, h3.tx.c 3 rfl, h3.tx.c 4 rfl⟩, h3.tx.c 6 rfl⟩) (fun hHeld => ?_)
      clear hkC kC
      try simp only [Act.put, List.setIfInBounds_toArray, List.set_cons_zero, List.set_cons_succ]
      refine wpAnyH_done (by kernel_rfl) ?_ _
      have k3 : Keeps (fun g => dxO Y rv wv g ∨ own2m c u g) w w3 := ((Keeps.refl NoS w).drew.trans hk1).no.trans (kM hk3)
      clear hm hk1 hk3 h1 hd hHeld
      obtain ⟨wp, wc, hwv⟩ := h3.tx.wsl
      have HWV := Lib.hid hwv
      have c13 := h3.tx.c 13 (u := .slice wp d.W.length wc) (by rw [← hwv]; rfl)
      clear hwv
      have c17 := h3.tx.c 17 (u := .bool d.phased) rfl
      have c20 := h3.tx.c 20 (u := .int .i64 d.state) rfl
      have c21 := h3.tx.c 21 (u := .int .i64 d.i) rfl
      have f17 := h3.tx.f 17
      have f20 := h3.tx.f 20
      have f21 := h3.tx.f 21
      have hl := h3.tx.lt
      go_upto_region 10 with fail
      have h4 := ((((h3.set 17 (.bool true) (d' := { d with phased := true }) rfl rfl rfl).set 21 (.int .i64 0) (d' := { d with phased := true, i := 0 }) rfl rfl rfl).set 20 (.int .i64 5) (d' := { d with phased := true, i := 0, state := 5 }) rfl rfl rfl).set 20 (.int .i64 1) (d' := { d with phased := true, i := 0, state := 1 }) rfl rfl rfl)
      have k4 : Keeps (fun g => dxO Y rv wv g ∨ own2m c u g) w ((((w3.setCell ⟨Y, 17, none⟩ (.bool true)).setCell ⟨Y, 21, none⟩ (.int .i64 0)).setCell ⟨Y, 20, none⟩ (.int .i64 5)).setCell ⟨Y, 20, none⟩ (.int .i64 1)) := k3.trans (kY (((((Keeps.refl (just Y) w3).setCell (p := ⟨Y, 17, none⟩) (fun _ => rfl) _).setCell (p := ⟨Y, 21, none⟩) (fun _ => rfl) _).setCell (p := ⟨Y, 20, none⟩) (fun _ => rfl) _).setCell (p := ⟨Y, 20, none⟩) (fun _ => rfl) _))
      generalize ((((w3.setCell ⟨Y, 17, none⟩ (.bool true)).setCell ⟨Y, 21, none⟩ (.int .i64 0)).setCell ⟨Y, 20, none⟩ (.int .i64 5)).setCell ⟨Y, 20, none⟩ (.int .i64 1)) = w4 at *
      clear c13 c17 c20 c21 f17 f20 f21 hl h3 k3
      go_upto_region 11 with (go_at_call 111; refine (drows_any h4).mono ?_; rintro e w5 ⟨rfl, hw5⟩; subst hw5)
      have c13 := h4.tx.c 13 (u := .slice wp d.W.length wc) (by rw [← HWV.out]; rfl)
      have c5 := h4.tx.c 5 (u := .bool true) rfl
      have hl := h4.tx.lt
      go_wp2_with (go_at_call 112; refine (dseat_any h4).mono ?_; rintro e w6 ⟨rfl, h6, k6⟩)
      go_ret
      rw [HR.out]
      exact ⟨rfl, h6.kp (k4.trans (kY k6))⟩
    · have HR := Lib.hid (show stepCommitD M d = (M.storeI (phD d) 2, sureD { d with phased := true, i := 0, state := 5 }) by rw [hrr, if_neg qw])
      clear hrr
      go_enter Tryz.func64, Tryz.ntmps64
      go_upto_region 4 with fail
      have hd := h.no ((Keeps.refl NoS w).drew)
      clear c20 hl
      refine wp_region_held_drew (S := (fun w' => (w'.cell? ⟨Y, 0, none⟩ = some (.int .i64 3) ∧ w'.cell? ⟨Y, 1, none⟩ = some (.int .i64 1) ∧ w'.cell? ⟨Y, 2, none⟩ = some (.int .i64 3) ∧ w'.cell? ⟨Y, 3, none⟩ = some (.int .i64 0) ∧ w'.cell? ⟨Y, 4, none⟩ = some (.int .i64 4)) ∧ w'.cell? ⟨Y, 6, none⟩ = some (.int .i64 d.th))) (by kernel_rfl) (⟨⟨hd.tx.c 0 rfl, hd.tx.c 1 rfl, hd.tx.c 2 rfl, hd.tx.c 3 rfl, hd.tx.c 4 rfl⟩, hd.tx.c 6 rfl⟩) (fun hHeld => ?_)
      refine wpAnyH_take (i := 0) (v := ?_) (by simp only [List.getElem?_toArray, List.getElem?_cons_succ, List.getElem?_cons_zero]; rfl) (by kernel_rfl) (by kernel_rfl) (by kernel_rfl) (by exact fun _ _ _ h => h) (Or.inl ⟨by rfl, ?_⟩) hHeld ?_
      rotate_left
      · intro w hSw; (try dsimp only at hSw); go_simp; (try with_reducible rfl)
      try simp only [Act.put, List.setIfInBounds_toArray, List.set_cons_zero, List.set_cons_succ]
      refine wpAnyH_take (i := 1) (v := ?_) (by simp only [List.getElem?_toArray, List.getElem?_cons_succ, List.getElem?_cons_zero]; rfl) (by kernel_rfl) (by kernel_rfl) (by kernel_rfl) (by exact fun _ _ _ h => h) (Or.inl ⟨by rfl, ?_⟩) hHeld ?_
      rotate_left
      · intro w hSw; (try dsimp only at hSw); go_simp; (try with_reducible rfl)
      try simp only [Act.put, List.setIfInBounds_toArray, List.set_cons_zero, List.set_cons_succ]
      refine wpAnyH_take (i := 2) (v := ?_) (by simp only [List.getElem?_toArray, List.getElem?_cons_succ, List.getElem?_cons_zero]; rfl) (by kernel_rfl) (by kernel_rfl) (by kernel_rfl) (by exact fun _ _ _ h => h) (Or.inl ⟨by rfl, ?_⟩) hHeld ?_
      rotate_left
      · intro w hSw; (try dsimp only at hSw); go_simp; (try with_reducible rfl)
      try simp only [Act.put, List.setIfInBounds_toArray, List.set_cons_zero, List.set_cons_succ]
      refine wpAnyH_take (i := 3) (v := ?_) (by simp only [List.getElem?_toArray, List.getElem?_cons_succ, List.getElem?_cons_zero]; rfl) (by kernel_rfl) (by kernel_rfl) (by kernel_rfl) (by exact fun _ _ _ h => h) (Or.inl ⟨by rfl, ?_⟩) hHeld ?_
      rotate_left
      · intro w hSw; (try dsimp only at hSw); go_simp; (try with_reducible rfl)
      try simp only [Act.put, List.setIfInBounds_toArray, List.set_cons_zero, List.set_cons_succ]
      refine wpAnyH_take (i := 4) (v := ?_) (by simp only [List.getElem?_toArray, List.getElem?_cons_succ, List.getElem?_cons_zero]; rfl) (by kernel_rfl) (by kernel_rfl) (by kernel_rfl) (by exact fun _ _ _ h => h) (Or.inl ⟨by rfl, ?_⟩) hHeld ?_
      rotate_left
      · intro w hSw; (try dsimp only at hSw); go_simp; (try with_reducible rfl)
      try simp only [Act.put, List.setIfInBounds_toArray, List.set_cons_zero, List.set_cons_succ]
      refine wpAnyH_take (i := 5) (v := ?_) (by simp only [List.getElem?_toArray, List.getElem?_cons_succ, List.getElem?_cons_zero]; rfl) (by kernel_rfl) (by kernel_rfl) (by kernel_rfl) (by exact fun _ _ _ h => h) (Or.inl ⟨by rfl, ?_⟩) hHeld ?_
      rotate_left
      · intro w hSw; (try dsimp only at hSw); go_simp; (try with_reducible rfl)
      try simp only [Act.put, List.setIfInBounds_toArray, List.set_cons_zero, List.set_cons_succ]
      refine wpAnyH_take (i := 6) (v := ?_) (by simp only [List.getElem?_toArray, List.getElem?_cons_succ, List.getElem?_cons_zero]; rfl) (by kernel_rfl) (by kernel_rfl) (by kernel_rfl) (by exact fun _ _ _ h => h) (Or.inl ⟨by rfl, ?_⟩) hHeld ?_
      rotate_left
      · intro w hSw; (try dsimp only at hSw); go_simp; (try with_reducible rfl)
      try simp only [Act.put, List.setIfInBounds_toArray, List.set_cons_zero, List.set_cons_succ]
      refine wpAnyH_take (i := 7) (v := ?_) (by simp only [List.getElem?_toArray, List.getElem?_cons_succ, List.getElem?_cons_zero]; rfl) (by kernel_rfl) (by kernel_rfl) (by kernel_rfl) (by exact fun _ _ _ h => h) (Or.inl ⟨by rfl, ?_⟩) hHeld ?_
      rotate_left
      · intro w hSw; (try dsimp only at hSw); go_simp; (try with_reducible rfl)
      try simp only [Act.put, List.setIfInBounds_toArray, List.set_cons_zero, List.set_cons_succ]
      refine wpAnyH_take (i := 8) (v := ?_) (by simp only [List.getElem?_toArray, List.getElem?_cons_succ, List.getElem?_cons_zero]; rfl) (by kernel_rfl) (by kernel_rfl) (by kernel_rfl) (by exact fun _ _ _ h => h) (Or.inl ⟨by rfl, ?_⟩) hHeld ?_
      rotate_left
      · intro w hSw; (try dsimp only at hSw); go_simp; (try with_reducible rfl)
      try simp only [Act.put, List.setIfInBounds_toArray, List.set_cons_zero, List.set_cons_succ]
      refine wpAnyH_ready (rs := [9]) (by kernel_rfl) (by simp) ?_
      refine AllReadyH.cons (by simp only [List.getElem?_toArray, List.getElem?_cons_succ, List.getElem?_cons_zero]; rfl) (fun kC hkC => ?_) AllReadyH.nil
      go_simp
      refine (rthread_lit 3 1 3 0 4 d.th 0 (phD d) HPH.out _).mono ?_; rintro e w' ⟨rfl, hk1⟩; have h1 := hd.no hk1
      (try go_wp2_with fail)
      refine hkC.out _ _ (⟨⟨h1.tx.c 0 rfl, h1.tx.c 1 rfl, h1.tx.c 2 rfl, h1.tx.c 3 rfl, h1.tx.c 4 rfl⟩, h1.tx.c 6 rfl⟩) (fun hHeld => ?_)
      clear hkC kC
      try simp only [Act.put, List.setIfInBounds_toArray, List.set_cons_zero, List.set_cons_succ]
      refine wpAnyH_ready (rs := [10]) (by kernel_rfl) (by simp) ?_
      refine AllReadyH.cons (by simp only [List.getElem?_toArray, List.getElem?_cons_succ, List.getElem?_cons_zero]; rfl) (fun kC hkC => ?_) AllReadyH.nil
      go_simp
      (try rw [wrap_w]); refine (rstore_tot c u M (phD d) 2 _ h1.mm).mono ?_; rintro e w3 ⟨rfl, hm, hk3⟩; have h3 := h1.mem hm hk3
      (try go_wp2_with fail)
      refine hkC.out _ _ (⟨⟨h3.tx.c 0 rfl, h3.tx.c 1 rfl, h3.tx.c 2 rfl, h3.tx.c 3 rfl, h3.tx.c 4 rfl⟩, h3.tx.c 6 rfl⟩) (fun hHeld => ?_)
      clear hkC kC
      try simp only [Act.put, List.setIfInBounds_toArray, List.set_cons_zero, List.set_cons_succ]
      refine wpAnyH_done (by kernel_rfl) ?_ _
      have k3 : Keeps (fun g => dxO Y rv wv g ∨ own2m c u g) w w3 := ((Keeps.refl NoS w).drew.trans hk1).no.trans (kM hk3)
      clear hm hk1 hk3 h1 hd hHeld
      obtain ⟨wp, wc, hwv⟩ := h3.tx.wsl
      have HWV := Lib.hid hwv
      have c13 := h3.tx.c 13 (u := .slice wp d.W.length wc) (by rw [← hwv]; rfl)
      clear hwv
      have c17 := h3.tx.c 17 (u := .bool d.phased) rfl
      have c20 := h3.tx.c 20 (u := .int .i64 d.state) rfl
      have c21 := h3.tx.c 21 (u := .int .i64 d.i) rfl
      have f17 := h3.tx.f 17
      have f20 := h3.tx.f 20
      have f21 := h3.tx.f 21
      have hl := h3.tx.lt
      go_upto_region 11 with fail
      have h4 := (((h3.set 17 (.bool true) (d' := { d with phased := true }) rfl rfl rfl).set 21 (.int .i64 0) (d' := { d with phased := true, i := 0 }) rfl rfl rfl).set 20 (.int .i64 5) (d' := { d with phased := true, i := 0, state := 5 }) rfl rfl rfl)
      have k4 : Keeps (fun g => dxO Y rv wv g ∨ own2m c u g) w (((w3.setCell ⟨Y, 17, none⟩ (.bool true)).setCell ⟨Y, 21, none⟩ (.int .i64 0)).setCell ⟨Y, 20, none⟩ (.int .i64 5)) := k3.trans (kY ((((Keeps.refl (just Y) w3).setCell (p := ⟨Y, 17, none⟩) (fun _ => rfl) _).setCell (p := ⟨Y, 21, none⟩) (fun _ => rfl) _).setCell (p := ⟨Y, 20, none⟩) (fun _ => rfl) _))
      generalize (((w3.setCell ⟨Y, 17, none⟩ (.bool true)).setCell ⟨Y, 21, none⟩ (.int .i64 0)).setCell ⟨Y, 20, none⟩ (.int .i64 5)) = w4 at *
      clear c13 c17 c20 c21 f17 f20 f21 hl h3 k3
      have c13 := h4.tx.c 13 (u := .slice wp d.W.length wc) (by rw [← HWV.out]; rfl)
      have c5 := h4.tx.c 5 (u := .bool true) rfl
      have hl := h4.tx.lt
      go_wp2_with (go_at_call 119; refine (dsure_any h4 (Int.le_refl _)).mono ?_; rintro e w6 ⟨rfl, h6, k6⟩)
      go_ret
      rw [HR.out]
      exact ⟨rfl, h6.kp (k4.trans (kY k6))⟩
  by_cases s1 : d.state = 1
  · have c20 := h.tx.c 20 (u := .int .i64 1) (by rw [← s1]; rfl)
    have c5 := h.tx.c 5 (u := .bool true) rfl
    have HR := Lib.hid (show stepCommitD M d = takeD M d by unfold stepCommitD; rw [if_neg s0, if_pos s1])
    have htk : d.look = 0 ∨ lookedOk d := by
      rcases hp with ⟨e, _⟩ | ⟨_, e⟩ | ⟨e, _⟩ | e | e
      · omega
      · exact e
      · omega
      · omega
      · omega
    clear s0 s1 hp
    go_enter Tryz.func64, Tryz.ntmps64
    go_wp2_with (go_at_call 113; refine (dtake_any h htk hrl).mono ?_; rintro e w1 ⟨rfl, hP⟩)
    go_ret
    rw [HR.out]
    exact ⟨rfl, hP⟩
  have hst : (d.state = 6 ∧ 0 ≤ d.i ∧ d.i < (d.W.length : Int)) ∨ d.state = 7 ∨ d.state = 8 := by
    rcases hp with ⟨e, _⟩ | ⟨e, _⟩ | e | e | e
    · omega
    · omega
    · exact .inl e
    · exact .inr (.inl e)
    · exact .inr (.inr e)
  have HR := Lib.hid (show stepCommitD M d = writesD M d by unfold stepCommitD; rw [if_neg s0, if_neg s1])
  have c20 := h.tx.c 20 (u := .int .i64 d.state) rfl
  have e0 : (d.state == 0) = false := by simpa using s0
  have e1 : (d.state == 1) = false := by simpa using s1
  have e2 : (d.state == 2) = false := by have : d.state ≠ 2 := by omega
                                         simpa using this
  have e3 : (d.state == 3) = false := by have : d.state ≠ 3 := by omega
                                         simpa using this
  have e4 : (d.state == 4) = false := by have : d.state ≠ 4 := by omega
                                         simpa using this
  have e5 : (d.state == 5) = false := by have : d.state ≠ 5 := by omega
                                         simpa using this
  have HST := Lib.hid hst
  clear s0 s1 hp hst
  go_enter Tryz.func64, Tryz.ntmps64
  go_wp2_with (go_at_call 118; refine (dwrite_any h HST.out hwl).mono ?_; rintro e w1 ⟨rfl, hP⟩)
  go_ret
  rw [HR.out]
  exact ⟨rfl, hP⟩
set_option maxHeartbeats 4000000 in
set_option maxRecDepth 100000 in
theorem dStep_any {w : World} {c Y : Nat} {u rv wv : Value} {M : MemS} {d : DxS} (h : DX w c u M Y rv wv d) (hp : DOk d) (hi : 0 ≤ d.i) : Calls Tryz.prog 19 #[.pointer (some ⟨Y, 0, none⟩), .pointer (some ⟨c, 0, none⟩)] w fun e w' => e = .returned (.int .i64 (stepD M d).2.2) ∧ DXP w w' c u (stepD M d).1 Y rv wv (stepD M d).2.1 := by
  have hl := h.tx.lt
  have hrl := hp.rl
  have hwl := hp.wl
  rcases hp.jb with j | j | ⟨j, s⟩ | ⟨j, s⟩ | j
  · have c19 := h.tx.c 19 (u := .int .i64 0) (by rw [← j]; rfl)
    have HR := Lib.hid (show stepD M d = (M, (d, 1)) by unfold stepD; rw [if_neg (by omega), if_neg (by omega), if_neg (by omega), if_neg (by omega)])
    clear hp j
    go_enter Tryz.func19, Tryz.ntmps19
    go_wp2_with fail
    go_ret
    rw [HR.out]
    exact ⟨rfl, h.self⟩
  · have c19 := h.tx.c 19 (u := .int .i64 1) (by rw [← j]; rfl)
    have HR := Lib.hid (show stepD M d = stepBeginD M d by unfold stepD; rw [if_pos j])
    clear hp j
    go_enter Tryz.func19, Tryz.ntmps19
    go_wp2_with (go_at_call 61; refine (dstepBegin_any h).mono ?_; rintro e w1 ⟨rfl, hP⟩)
    go_ret
    rw [HR.out]
    exact ⟨rfl, hP⟩
  · have HS := Lib.hid s
    clear s
    have c19 := h.tx.c 19 (u := .int .i64 2) (by rw [← j]; rfl)
    have HR := Lib.hid (show stepD M d = stepReadD M d by unfold stepD; rw [if_neg (by omega), if_pos j])
    clear hp j
    go_enter Tryz.func19, Tryz.ntmps19
    go_wp2_with (go_at_call 62; refine (dstepRead_any h HS.out hrl hi).mono ?_; rintro e w1 ⟨rfl, hP⟩)
    go_ret
    rw [HR.out]
    exact ⟨rfl, hP⟩
  · have HS := Lib.hid s
    clear s
    have c19 := h.tx.c 19 (u := .int .i64 4) (by rw [← j]; rfl)
    have HR := Lib.hid (show stepD M d = stepCommitD M d by unfold stepD; rw [if_neg (by omega), if_neg (by omega), if_pos j])
    clear hp j
    go_enter Tryz.func19, Tryz.ntmps19
    go_wp2_with (go_at_call 64; refine (dstepCommit_any h HS.out hrl hwl).mono ?_; rintro e w1 ⟨rfl, hP⟩)
    go_ret
    rw [HR.out]
    exact ⟨rfl, hP⟩
  · have c19 := h.tx.c 19 (u := .int .i64 5) (by rw [← j]; rfl)
    have HR := Lib.hid (show stepD M d = stepUndoD M d by unfold stepD; rw [if_neg (by omega), if_neg (by omega), if_neg (by omega), if_pos j])
    clear hp j
    go_enter Tryz.func19, Tryz.ntmps19
    go_wp2_with (go_at_call 65; refine (dstepUndo_any h hi).mono ?_; rintro e w1 ⟨rfl, hP⟩)
    go_ret
    rw [HR.out]
    exact ⟨rfl, hP⟩
end Go.Proofs.YtlcmnhfiggkmnaaGreat
