/- Package norec: look. -/
import Derived.Test.YtfmamedkiaimpaaTxD
namespace Go.Proofs.Ytfmamedkiaimpaa
open Go.RowKit
def lookEnd (t : TxS) : TxS × Int := if t.i < (t.V.length : Int) then (t, 0) else (doneT { t with value := t.val, R := putL 32 t.R t.pl t.val }, 1)
def lookT (M : MemS) (t : TxS) : MemS × (TxS × Int) :=
  if t.part = 0 then (M.loadI t.pl, ({ t with val := M.atP t.pl, part := 1 }, 0))
  else if t.part = 1 then (M.loadI 1, if M.atP 1 = t.stamp then lookEnd { t with part := 2, i := 0 } else ({ t with part := 8 }, 0))
  else ((watchesT M t t.i.toNat).1, if (watchesT M t t.i.toNat).2.2 then lookEnd (watchesT M t t.i.toNat).2.1 else abortT (watchesT M t t.i.toNat).2.1 3)

set_option maxHeartbeats 4000000 in
set_option maxRecDepth 100000 in
theorem xlook_any {w : World} {a X ra wa : Nat} {v rv wv vv : Value} {M : MemS} {t : TxS} (h : NX w a v M X ra wa rv wv vv t) (hp : t.part = 0 ∨ t.part = 1 ∨ (t.part = 2 ∧ 0 ≤ t.i ∧ t.i < (t.V.length : Int))) (hb : t.V.length < 1000000) : Calls Try.prog 54 #[.pointer (some ⟨X, 0, none⟩), .pointer (some ⟨a, 0, none⟩)] w fun e w' => e = .returned (.int .i64 (lookT M t).2.2) ∧ NXP w w' a v (lookT M t).1 X ra wa rv wv vv (lookT M t).2.1 := by
  obtain ⟨res, hres⟩ : ∃ z, lookT M t = z := ⟨_, rfl⟩
  rw [hres]
  by_cases p0 : t.part = 0
  · have hr2 : lookT M t = (M.loadI t.pl, ({ t with val := M.atP t.pl, part := 1 }, 0)) := by unfold lookT; rw [if_pos p0]
    rw [hr2] at hres
    subst hres
    have c12 := h.tx.c 12 (u := .int .i64 0) (by rw [← p0]; rfl)
    obtain ⟨at0, hat0⟩ : ∃ z, M.atP t.pl = z := ⟨_, rfl⟩
    rw [hat0]
    have HAT := Lib.hid hat0
    clear hat0 p0 hr2
    have c14 := h.tx.c 14 (u := .int .i64 t.pl) rfl
    have hl := h.tx.lt
    go_enter Try.func54, Try.ntmps54
    go_upto_region 3 with fail
    go_upto_region 4 with (go_at_call 52; refine (load_tot a v M t.pl _ h.mm).mono ?_; rw [HAT.out]; rintro e w2 ⟨rfl, hm, hk2⟩; have h2 := h.mem hm hk2; have f15 := h2.tx.f 15; have c15 := h2.tx.c 15 (u := .int .i64 t.val) rfl; have hl2 := h2.tx.lt)
    have h3 := h2.set 15 (.int .i64 at0) (t' := { t with val := at0 }) rfl rfl rfl rfl
    have k3 := keepsX w2 X 15 (.int .i64 at0)
    generalize w2.setCell ⟨X, 15, none⟩ (.int .i64 at0) = w3 at *
    clear c12 c14 hl f15 c15 hl2 h2
    have f12 := h3.tx.f 12
    have c12 := h3.tx.c 12 (u := .int .i64 t.part) rfl
    have hl := h3.tx.lt
    go_wp2_with fail
    go_ret
    exact ⟨rfl, h.km ((km_m hk2).trans (kx_m (k3.trans (keepsX w3 X 12 (.int .i64 1))))) (h3.set 12 (.int .i64 1) rfl rfl rfl rfl)⟩
  by_cases p1 : t.part = 1
  · have c12 := h.tx.c 12 (u := .int .i64 1) (by rw [← p1]; rfl)
    have hl := h.tx.lt
    have hmp := h.tx.mp
    obtain ⟨sq, hsq⟩ : ∃ z, M.atP 1 = z := ⟨_, rfl⟩
    have HSQ := Lib.hid hsq
    by_cases qs : sq = t.stamp
    · have HRES := Lib.hid (show res = (M.loadI 1, lookEnd { t with part := 2, i := 0 }) by rw [← hres]; unfold lookT; rw [if_neg p0, if_pos p1, hsq, if_pos qs])
      have hb1 : (sq != t.stamp) = false := by simpa using qs
      clear p0 p1 hres hsq qs
      go_enter Try.func54, Try.ntmps54
      go_upto_region 8 with (first
        | (go_at_call 22; refine (seq_lit 3 1 3 0 4 1 seq1 _).mono ?_; rintro e w1 ⟨rfl, hk1⟩; have h1 := h.no hk1)
        | (go_at_call 52; refine (load_tot a v M 1 _ h1.mm).mono ?_; rw [HSQ.out]; rintro e w2 ⟨rfl, hm, hk2⟩; have h2 := h1.mem hm hk2))
      clear c12 hl hmp h1
      have c19 := h2.tx.c 19 (u := .int .i64 t.stamp) rfl
      have f12 := h2.tx.f 12; have f13 := h2.tx.f 13
      have c12 := h2.tx.c 12 (u := .int .i64 t.part) rfl; have c13 := h2.tx.c 13 (u := .int .i64 t.i) rfl
      have hl := h2.tx.lt
      have h4 := (h2.set 12 (.int .i64 2) (t' := { t with part := 2 }) rfl rfl rfl rfl).set 13 (.int .i64 0) (t' := { t with part := 2, i := 0 }) rfl rfl rfl rfl
      have k4 := (keepsX w2 X 12 (.int .i64 2)).trans (keepsX _ X 13 (.int .i64 0))
      go_upto_region 15 with fail
      generalize (w2.setCell ⟨X, 12, none⟩ (.int .i64 2)).setCell ⟨X, 13, none⟩ (.int .i64 0) = ws at *
      have kp := (hk1.no.trans (km_m hk2)).trans (kx_m k4)
      clear c19 f12 f13 c12 c13 hl h2 k4 hk1 hk2 hm
      obtain ⟨tt, htt⟩ : ∃ z, z = ({ t with part := 2, i := 0 } : TxS) := ⟨_, rfl⟩
      rw [← htt] at h4 HRES
      have hn := h4
      clear h4 htt
      by_cases qi : tt.i < (tt.V.length : Int)
      · have hq : decide (tt.i < (tt.V.length : Int)) = true := decide_eq_true qi
        have HLE := Lib.hid (show lookEnd tt = (tt, 0) by unfold lookEnd; rw [if_pos qi])
        clear qi
        obtain ⟨vp, vc, hvs⟩ := hn.tx.vsl
        subst hvs
        have c9 := hn.tx.c 9 (u := .slice vp tt.V.length vc) rfl
        have c13 := hn.tx.c 13 (u := .int .i64 tt.i) rfl
        go_upto_region 15 with fail
        go_quiet (fail)
        go_wp2_with fail
        go_ret
        rw [HRES.out, HLE.out]
        exact ⟨rfl, NXP.after kp (hn.self.no ((Keeps.refl NoS _).drewN _))⟩
      · have hq : decide (tt.i < (tt.V.length : Int)) = false := decide_eq_false qi
        have HLE := Lib.hid (show lookEnd tt = (doneT { tt with value := tt.val, R := putL 32 tt.R tt.pl tt.val }, 1) by unfold lookEnd; rw [if_neg qi])
        clear qi
        obtain ⟨vp, vc, hvs⟩ := hn.tx.vsl
        subst hvs
        have c9 := hn.tx.c 9 (u := .slice vp tt.V.length vc) rfl
        have c13 := hn.tx.c 13 (u := .int .i64 tt.i) rfl
        go_upto_region 15 with fail
        go_quiet (fail)
        go_upto_region 17 with fail
        have h2 := hn.no ((Keeps.refl NoS ws).drewN nq)
        have k2 : Keeps (kXm X a v) w (ws.drewN nq) := kp.trans (kx_m ((Keeps.refl (just X) ws).drewN nq))
        generalize ws.drewN nq = w20 at *
        clear c9 c13 hn kp
        have c15 := h2.tx.c 15 (u := .int .i64 tt.val) rfl
        have f17 := h2.tx.f 17
        have c17 := h2.tx.c 17 (u := .int .i64 tt.value) rfl
        have hl := h2.tx.lt
        have h3 := h2.set 17 (.int .i64 tt.val) (t' := { tt with value := tt.val }) rfl rfl rfl rfl
        have k3 := keepsX w20 X 17 (.int .i64 tt.val)
        go_upto_region 18 with fail
        generalize w20.setCell ⟨X, 17, none⟩ (.int .i64 tt.val) = w21 at *
        have k3' := k2.trans (kx_m k3)
        clear c15 f17 c17 hl h2 k2 k3
        have hd := h3.no ((Keeps.refl NoS _).drew)
        refine wp_region_held_drew (S := (fun w' => w'.cell? ⟨X, 7, none⟩ = some (.pointer (some ⟨ra, 0, none⟩)) ∧ w'.cell? ⟨X, 14, none⟩ = some (.int .i64 tt.pl) ∧ w'.cell? ⟨X, 15, none⟩ = some (.int .i64 tt.val))) (by kernel_rfl) (⟨hd.tx.c 7 rfl, hd.tx.c 14 rfl, hd.tx.c 15 rfl⟩) (fun hHeld => ?_)
        refine wpAnyH_take (i := 0) (v := ?_) (by simp only [List.getElem?_toArray, List.getElem?_cons_succ, List.getElem?_cons_zero]; rfl) (by kernel_rfl) (by kernel_rfl) (by kernel_rfl) (by exact fun _ _ _ h => h) (Or.inl ⟨by rfl, ?_⟩) hHeld ?_
        rotate_left
        · intro w hSw; (try dsimp only at hSw); go_simp; (try with_reducible rfl)
        try simp only [Act.put, List.setIfInBounds_toArray, List.set_cons_zero, List.set_cons_succ]
        refine wpAnyH_take (i := 1) (v := ?_) (by simp only [List.getElem?_toArray, List.getElem?_cons_succ, List.getElem?_cons_zero]; rfl) (by kernel_rfl) (by kernel_rfl) (by kernel_rfl) (by exact fun _ _ _ h => h) (Or.inl ⟨by rfl, ?_⟩) hHeld ?_
        rotate_left
        · intro w hSw; (try dsimp only at hSw); go_simp; (try with_reducible rfl)
        try simp only [Act.put, List.setIfInBounds_toArray, List.set_cons_zero, List.set_cons_succ]
        refine wpAnyH_take (i := 2) (v := ?_) (by simp only [List.getElem?_toArray, List.getElem?_cons_succ, List.getElem?_cons_zero]; rfl) (by kernel_rfl) (by kernel_rfl) (by kernel_rfl) (by exact fun _ _ _ h => h) (Or.inl ⟨by rfl, ?_⟩) hHeld ?_
        rotate_left
        · intro w hSw; (try dsimp only at hSw); go_simp; (try with_reducible rfl)
        try simp only [Act.put, List.setIfInBounds_toArray, List.set_cons_zero, List.set_cons_succ]
        refine wpAnyH_take (i := 3) (v := ?_) (by simp only [List.getElem?_toArray, List.getElem?_cons_succ, List.getElem?_cons_zero]; rfl) (by kernel_rfl) (by kernel_rfl) (by kernel_rfl) (by exact fun _ _ _ h => h) (Or.inl ⟨by rfl, ?_⟩) hHeld ?_
        rotate_left
        · intro w hSw; (try dsimp only at hSw); go_simp; (try with_reducible rfl)
        try simp only [Act.put, List.setIfInBounds_toArray, List.set_cons_zero, List.set_cons_succ]
        refine wpAnyH_take (i := 4) (v := ?_) (by simp only [List.getElem?_toArray, List.getElem?_cons_succ, List.getElem?_cons_zero]; rfl) (by kernel_rfl) (by kernel_rfl) (by kernel_rfl) (by exact fun _ _ _ h => h) (Or.inl ⟨by rfl, ?_⟩) hHeld ?_
        rotate_left
        · intro w hSw; (try dsimp only at hSw); go_simp; (try with_reducible rfl)
        try simp only [Act.put, List.setIfInBounds_toArray, List.set_cons_zero, List.set_cons_succ]
        refine wpAnyH_take (i := 5) (v := ?_) (by simp only [List.getElem?_toArray, List.getElem?_cons_succ, List.getElem?_cons_zero]; rfl) (by kernel_rfl) (by kernel_rfl) (by kernel_rfl) (by exact fun _ _ _ h => h) (Or.inl ⟨by rfl, ?_⟩) hHeld ?_
        rotate_left
        · intro w hSw; (try dsimp only at hSw); go_simp; (try with_reducible rfl)
        try simp only [Act.put, List.setIfInBounds_toArray, List.set_cons_zero, List.set_cons_succ]
        refine wpAnyH_take (i := 6) (v := ?_) (by simp only [List.getElem?_toArray, List.getElem?_cons_succ, List.getElem?_cons_zero]; rfl) (by kernel_rfl) (by kernel_rfl) (by kernel_rfl) (by exact fun _ _ _ h => h) (Or.inl ⟨by rfl, ?_⟩) hHeld ?_
        rotate_left
        · intro w hSw; (try dsimp only at hSw); go_simp; (try with_reducible rfl)
        try simp only [Act.put, List.setIfInBounds_toArray, List.set_cons_zero, List.set_cons_succ]
        refine wpAnyH_take (i := 7) (v := ?_) (by simp only [List.getElem?_toArray, List.getElem?_cons_succ, List.getElem?_cons_zero]; rfl) (by kernel_rfl) (by kernel_rfl) (by kernel_rfl) (by exact fun _ _ _ h => h) (Or.inl ⟨by rfl, ?_⟩) hHeld ?_
        rotate_left
        · intro w hSw; (try dsimp only at hSw); go_simp; (try with_reducible rfl)
        try simp only [Act.put, List.setIfInBounds_toArray, List.set_cons_zero, List.set_cons_succ]
        refine wpAnyH_take (i := 8) (v := ?_) (by simp only [List.getElem?_toArray, List.getElem?_cons_succ, List.getElem?_cons_zero]; rfl) (by kernel_rfl) (by kernel_rfl) (by kernel_rfl) (by exact fun _ _ _ h => h) (Or.inl ⟨by rfl, ?_⟩) hHeld ?_
        rotate_left
        · intro w hSw; (try dsimp only at hSw); go_simp; (try with_reducible rfl)
        try simp only [Act.put, List.setIfInBounds_toArray, List.set_cons_zero, List.set_cons_succ]
        refine wpAnyH_take (i := 9) (v := ?_) (by simp only [List.getElem?_toArray, List.getElem?_cons_succ, List.getElem?_cons_zero]; rfl) (by kernel_rfl) (by kernel_rfl) (by kernel_rfl) (by exact fun _ _ _ h => h) (Or.inl ⟨by rfl, ?_⟩) hHeld ?_
        rotate_left
        · intro w hSw; (try dsimp only at hSw); go_simp; (try with_reducible rfl)
        try simp only [Act.put, List.setIfInBounds_toArray, List.set_cons_zero, List.set_cons_succ]
        refine wpAnyH_take (i := 10) (v := ?_) (by simp only [List.getElem?_toArray, List.getElem?_cons_succ, List.getElem?_cons_zero]; rfl) (by kernel_rfl) (by kernel_rfl) (by kernel_rfl) (by exact fun _ _ _ h => h) (Or.inl ⟨by rfl, ?_⟩) hHeld ?_
        rotate_left
        · intro w hSw; (try dsimp only at hSw); go_simp; (try with_reducible rfl)
        try simp only [Act.put, List.setIfInBounds_toArray, List.set_cons_zero, List.set_cons_succ]
        refine wpAnyH_take (i := 11) (v := ?_) (by simp only [List.getElem?_toArray, List.getElem?_cons_succ, List.getElem?_cons_zero]; rfl) (by kernel_rfl) (by kernel_rfl) (by kernel_rfl) (by exact fun _ _ _ h => h) (Or.inl ⟨by rfl, ?_⟩) hHeld ?_
        rotate_left
        · intro w hSw; (try dsimp only at hSw); go_simp; (try with_reducible rfl)
        try simp only [Act.put, List.setIfInBounds_toArray, List.set_cons_zero, List.set_cons_succ]
        refine wpAnyH_ready (rs := [12]) (by kernel_rfl) (by simp) ?_
        refine AllReadyH.cons (by simp only [List.getElem?_toArray, List.getElem?_cons_succ, List.getElem?_cons_zero]; rfl) (fun kC hkC => ?_) AllReadyH.nil
        go_simp
        refine (xrput_any hd tt.pl tt.val).mono ?_; rintro e w22 ⟨rfl, rv', wv', vv', h5, k5, g5⟩
        (try go_wp2_with fail)
        refine hkC.out _ _ (⟨h5.tx.c 7 rfl, h5.tx.c 14 rfl, h5.tx.c 15 rfl⟩) (fun hHeld => ?_)
        clear hkC kC
        try simp only [Act.put, List.setIfInBounds_toArray, List.set_cons_zero, List.set_cons_succ]
        refine wpAnyH_done (by kernel_rfl) ?_ _
        go_wp2_with (go_at_call 53; refine (xdone_any h5).mono ?_; rintro e w23 ⟨rfl, h6, k6⟩)
        go_ret
        rw [HRES.out, HLE.out]
        exact ⟨rfl, NXP.after (k3'.trans (kx_m ((Keeps.refl (just X) _).drew))) (NXP.then k5 g5 (h5.kx k6 h6))⟩
    · have HRES := Lib.hid (show res = (M.loadI 1, ({ t with part := 8 }, 0)) by rw [← hres]; unfold lookT; rw [if_neg p0, if_pos p1, hsq, if_neg qs])
      have hb1 : (sq != t.stamp) = true := by simpa using qs
      clear p0 p1 hres hsq qs
      go_enter Try.func54, Try.ntmps54
      go_upto_region 8 with (first
        | (go_at_call 22; refine (seq_lit 3 1 3 0 4 1 seq1 _).mono ?_; rintro e w1 ⟨rfl, hk1⟩; have h1 := h.no hk1)
        | (go_at_call 52; refine (load_tot a v M 1 _ h1.mm).mono ?_; rw [HSQ.out]; rintro e w2 ⟨rfl, hm, hk2⟩; have h2 := h1.mem hm hk2))
      clear c12 hl hmp h1
      have c19 := h2.tx.c 19 (u := .int .i64 t.stamp) rfl
      have f12 := h2.tx.f 12
      have c12 := h2.tx.c 12 (u := .int .i64 t.part) rfl
      have hl := h2.tx.lt
      go_wp2_with fail
      go_ret
      rw [HRES.out]
      exact ⟨rfl, h.km ((hk1.no.trans (km_m hk2)).trans (kx_m (keepsX w2 X 12 (.int .i64 8)))) (h2.set 12 (.int .i64 8) rfl rfl rfl rfl)⟩
  obtain ⟨hp2, hi0, hi1⟩ : t.part = 2 ∧ 0 ≤ t.i ∧ t.i < (t.V.length : Int) := hp.elim (fun e => absurd e p0) (fun e => e.elim (fun e => absurd e p1) id)
  obtain ⟨k, hk⟩ := Int.eq_ofNat_of_zero_le hi0
  have c12 := h.tx.c 12 (u := .int .i64 2) (by rw [← hp2]; rfl)
  have hl := h.tx.lt
  have hkn : t.i.toNat = k := by rw [hk]; rfl
  obtain ⟨M2, t2, b2, hw⟩ : ∃ M2 t2 b2, watchesT M t k = (M2, (t2, b2)) := ⟨_, _, _, rfl⟩
  have hcw := xwatches_any h k hk (by omega) hb
  rw [hw] at hcw
  dsimp only at hcw
  have HCW := Lib.hid hcw
  have hr2 : res = (M2, if b2 then lookEnd t2 else abortT t2 3) := by rw [← hres]; unfold lookT; rw [if_neg p0, if_neg p1, hkn, hw]
  cases b2 with
  | true =>
    have HRES := Lib.hid (show res = (M2, lookEnd t2) from hr2)
    clear hres hr2 hkn hw hcw hk hi0 hi1 hp2 p0 p1 hp
    obtain ⟨tt, htt⟩ : ∃ z, z = t2 := ⟨_, rfl⟩
    subst htt
    go_enter Try.func54, Try.ntmps54
    go_upto_region 15 with (go_at_call 70; refine HCW.out.mono ?_; rintro e ws ⟨rfl, hn, kp⟩)
    clear c12 hl HCW
    by_cases qi : tt.i < (tt.V.length : Int)
    · have hq : decide (tt.i < (tt.V.length : Int)) = true := decide_eq_true qi
      have HLE := Lib.hid (show lookEnd tt = (tt, 0) by unfold lookEnd; rw [if_pos qi])
      clear qi
      obtain ⟨vp, vc, hvs⟩ := hn.tx.vsl
      subst hvs
      have c9 := hn.tx.c 9 (u := .slice vp tt.V.length vc) rfl
      have c13 := hn.tx.c 13 (u := .int .i64 tt.i) rfl
      go_upto_region 15 with fail
      go_quiet (fail)
      go_wp2_with fail
      go_ret
      rw [HRES.out, HLE.out]
      exact ⟨rfl, NXP.after kp (hn.self.no ((Keeps.refl NoS _).drewN _))⟩
    · have hq : decide (tt.i < (tt.V.length : Int)) = false := decide_eq_false qi
      have HLE := Lib.hid (show lookEnd tt = (doneT { tt with value := tt.val, R := putL 32 tt.R tt.pl tt.val }, 1) by unfold lookEnd; rw [if_neg qi])
      clear qi
      obtain ⟨vp, vc, hvs⟩ := hn.tx.vsl
      subst hvs
      have c9 := hn.tx.c 9 (u := .slice vp tt.V.length vc) rfl
      have c13 := hn.tx.c 13 (u := .int .i64 tt.i) rfl
      go_upto_region 15 with fail
      go_quiet (fail)
      go_upto_region 17 with fail
      have h2 := hn.no ((Keeps.refl NoS ws).drewN nq)
      have k2 : Keeps (kXm X a v) w (ws.drewN nq) := kp.trans (kx_m ((Keeps.refl (just X) ws).drewN nq))
      generalize ws.drewN nq = w20 at *
      clear c9 c13 hn kp
      have c15 := h2.tx.c 15 (u := .int .i64 tt.val) rfl
      have f17 := h2.tx.f 17
      have c17 := h2.tx.c 17 (u := .int .i64 tt.value) rfl
      have hl := h2.tx.lt
      have h3 := h2.set 17 (.int .i64 tt.val) (t' := { tt with value := tt.val }) rfl rfl rfl rfl
      have k3 := keepsX w20 X 17 (.int .i64 tt.val)
      go_upto_region 18 with fail
      generalize w20.setCell ⟨X, 17, none⟩ (.int .i64 tt.val) = w21 at *
      have k3' := k2.trans (kx_m k3)
      clear c15 f17 c17 hl h2 k2 k3
      have hd := h3.no ((Keeps.refl NoS _).drew)
      refine wp_region_held_drew (S := (fun w' => w'.cell? ⟨X, 7, none⟩ = some (.pointer (some ⟨ra, 0, none⟩)) ∧ w'.cell? ⟨X, 14, none⟩ = some (.int .i64 tt.pl) ∧ w'.cell? ⟨X, 15, none⟩ = some (.int .i64 tt.val))) (by kernel_rfl) (⟨hd.tx.c 7 rfl, hd.tx.c 14 rfl, hd.tx.c 15 rfl⟩) (fun hHeld => ?_)
      refine wpAnyH_take (i := 0) (v := ?_) (by simp only [List.getElem?_toArray, List.getElem?_cons_succ, List.getElem?_cons_zero]; rfl) (by kernel_rfl) (by kernel_rfl) (by kernel_rfl) (by exact fun _ _ _ h => h) (Or.inl ⟨by rfl, ?_⟩) hHeld ?_
      rotate_left
      · intro w hSw; (try dsimp only at hSw); go_simp; (try with_reducible rfl)
      try simp only [Act.put, List.setIfInBounds_toArray, List.set_cons_zero, List.set_cons_succ]
      refine wpAnyH_take (i := 1) (v := ?_) (by simp only [List.getElem?_toArray, List.getElem?_cons_succ, List.getElem?_cons_zero]; rfl) (by kernel_rfl) (by kernel_rfl) (by kernel_rfl) (by exact fun _ _ _ h => h) (Or.inl ⟨by rfl, ?_⟩) hHeld ?_
      rotate_left
      · intro w hSw; (try dsimp only at hSw); go_simp; (try with_reducible rfl)
      try simp only [Act.put, List.setIfInBounds_toArray, List.set_cons_zero, List.set_cons_succ]
      refine wpAnyH_take (i := 2) (v := ?_) (by simp only [List.getElem?_toArray, List.getElem?_cons_succ, List.getElem?_cons_zero]; rfl) (by kernel_rfl) (by kernel_rfl) (by kernel_rfl) (by exact fun _ _ _ h => h) (Or.inl ⟨by rfl, ?_⟩) hHeld ?_
      rotate_left
      · intro w hSw; (try dsimp only at hSw); go_simp; (try with_reducible rfl)
      try simp only [Act.put, List.setIfInBounds_toArray, List.set_cons_zero, List.set_cons_succ]
      refine wpAnyH_take (i := 3) (v := ?_) (by simp only [List.getElem?_toArray, List.getElem?_cons_succ, List.getElem?_cons_zero]; rfl) (by kernel_rfl) (by kernel_rfl) (by kernel_rfl) (by exact fun _ _ _ h => h) (Or.inl ⟨by rfl, ?_⟩) hHeld ?_
      rotate_left
      · intro w hSw; (try dsimp only at hSw); go_simp; (try with_reducible rfl)
      try simp only [Act.put, List.setIfInBounds_toArray, List.set_cons_zero, List.set_cons_succ]
      refine wpAnyH_take (i := 4) (v := ?_) (by simp only [List.getElem?_toArray, List.getElem?_cons_succ, List.getElem?_cons_zero]; rfl) (by kernel_rfl) (by kernel_rfl) (by kernel_rfl) (by exact fun _ _ _ h => h) (Or.inl ⟨by rfl, ?_⟩) hHeld ?_
      rotate_left
      · intro w hSw; (try dsimp only at hSw); go_simp; (try with_reducible rfl)
      try simp only [Act.put, List.setIfInBounds_toArray, List.set_cons_zero, List.set_cons_succ]
      refine wpAnyH_take (i := 5) (v := ?_) (by simp only [List.getElem?_toArray, List.getElem?_cons_succ, List.getElem?_cons_zero]; rfl) (by kernel_rfl) (by kernel_rfl) (by kernel_rfl) (by exact fun _ _ _ h => h) (Or.inl ⟨by rfl, ?_⟩) hHeld ?_
      rotate_left
      · intro w hSw; (try dsimp only at hSw); go_simp; (try with_reducible rfl)
      try simp only [Act.put, List.setIfInBounds_toArray, List.set_cons_zero, List.set_cons_succ]
      refine wpAnyH_take (i := 6) (v := ?_) (by simp only [List.getElem?_toArray, List.getElem?_cons_succ, List.getElem?_cons_zero]; rfl) (by kernel_rfl) (by kernel_rfl) (by kernel_rfl) (by exact fun _ _ _ h => h) (Or.inl ⟨by rfl, ?_⟩) hHeld ?_
      rotate_left
      · intro w hSw; (try dsimp only at hSw); go_simp; (try with_reducible rfl)
      try simp only [Act.put, List.setIfInBounds_toArray, List.set_cons_zero, List.set_cons_succ]
      refine wpAnyH_take (i := 7) (v := ?_) (by simp only [List.getElem?_toArray, List.getElem?_cons_succ, List.getElem?_cons_zero]; rfl) (by kernel_rfl) (by kernel_rfl) (by kernel_rfl) (by exact fun _ _ _ h => h) (Or.inl ⟨by rfl, ?_⟩) hHeld ?_
      rotate_left
      · intro w hSw; (try dsimp only at hSw); go_simp; (try with_reducible rfl)
      try simp only [Act.put, List.setIfInBounds_toArray, List.set_cons_zero, List.set_cons_succ]
      refine wpAnyH_take (i := 8) (v := ?_) (by simp only [List.getElem?_toArray, List.getElem?_cons_succ, List.getElem?_cons_zero]; rfl) (by kernel_rfl) (by kernel_rfl) (by kernel_rfl) (by exact fun _ _ _ h => h) (Or.inl ⟨by rfl, ?_⟩) hHeld ?_
      rotate_left
      · intro w hSw; (try dsimp only at hSw); go_simp; (try with_reducible rfl)
      try simp only [Act.put, List.setIfInBounds_toArray, List.set_cons_zero, List.set_cons_succ]
      refine wpAnyH_take (i := 9) (v := ?_) (by simp only [List.getElem?_toArray, List.getElem?_cons_succ, List.getElem?_cons_zero]; rfl) (by kernel_rfl) (by kernel_rfl) (by kernel_rfl) (by exact fun _ _ _ h => h) (Or.inl ⟨by rfl, ?_⟩) hHeld ?_
      rotate_left
      · intro w hSw; (try dsimp only at hSw); go_simp; (try with_reducible rfl)
      try simp only [Act.put, List.setIfInBounds_toArray, List.set_cons_zero, List.set_cons_succ]
      refine wpAnyH_take (i := 10) (v := ?_) (by simp only [List.getElem?_toArray, List.getElem?_cons_succ, List.getElem?_cons_zero]; rfl) (by kernel_rfl) (by kernel_rfl) (by kernel_rfl) (by exact fun _ _ _ h => h) (Or.inl ⟨by rfl, ?_⟩) hHeld ?_
      rotate_left
      · intro w hSw; (try dsimp only at hSw); go_simp; (try with_reducible rfl)
      try simp only [Act.put, List.setIfInBounds_toArray, List.set_cons_zero, List.set_cons_succ]
      refine wpAnyH_take (i := 11) (v := ?_) (by simp only [List.getElem?_toArray, List.getElem?_cons_succ, List.getElem?_cons_zero]; rfl) (by kernel_rfl) (by kernel_rfl) (by kernel_rfl) (by exact fun _ _ _ h => h) (Or.inl ⟨by rfl, ?_⟩) hHeld ?_
      rotate_left
      · intro w hSw; (try dsimp only at hSw); go_simp; (try with_reducible rfl)
      try simp only [Act.put, List.setIfInBounds_toArray, List.set_cons_zero, List.set_cons_succ]
      refine wpAnyH_ready (rs := [12]) (by kernel_rfl) (by simp) ?_
      refine AllReadyH.cons (by simp only [List.getElem?_toArray, List.getElem?_cons_succ, List.getElem?_cons_zero]; rfl) (fun kC hkC => ?_) AllReadyH.nil
      go_simp
      refine (xrput_any hd tt.pl tt.val).mono ?_; rintro e w22 ⟨rfl, rv', wv', vv', h5, k5, g5⟩
      (try go_wp2_with fail)
      refine hkC.out _ _ (⟨h5.tx.c 7 rfl, h5.tx.c 14 rfl, h5.tx.c 15 rfl⟩) (fun hHeld => ?_)
      clear hkC kC
      try simp only [Act.put, List.setIfInBounds_toArray, List.set_cons_zero, List.set_cons_succ]
      refine wpAnyH_done (by kernel_rfl) ?_ _
      go_wp2_with (go_at_call 53; refine (xdone_any h5).mono ?_; rintro e w23 ⟨rfl, h6, k6⟩)
      go_ret
      rw [HRES.out, HLE.out]
      exact ⟨rfl, NXP.after (k3'.trans (kx_m ((Keeps.refl (just X) _).drew))) (NXP.then k5 g5 (h5.kx k6 h6))⟩
  | false =>
    have HRES := Lib.hid (show res = (M2, abortT t2 3) from hr2)
    clear hres hr2 hkn hw hcw hk hi0 hi1 hp2 p0 p1 hp
    go_enter Try.func54, Try.ntmps54
    go_wp2_with (first
      | (go_at_call 70; refine HCW.out.mono ?_; rintro e ws ⟨rfl, hn, kp⟩)
      | (go_at_call 47; refine (xabort_any hn 3).mono ?_; rintro e w3 ⟨rfl, h3, k3⟩))
    go_ret
    rw [HRES.out]
    exact ⟨rfl, h.km (kp.trans (kx_m k3)) h3⟩
end Go.Proofs.Ytfmamedkiaimpaa
