/- Package norec: seeks. -/
import Derived.Test.YtfmamedkiaimpaaTxE
import Derived.Test.YtfmamedkiaimpaaDag3
namespace Go.Proofs.Ytfmamedkiaimpaa
open Go.RowKit
def oddB (z : Int) : Bool := bits BinOp.and IntKind.i64 z 1 == 1
def seekEnd (t : TxS) : TxS × Int :=
  if t.part = 9 then (if (t.R.length : Int) ≤ t.i then ({ t with part := 10 }, 0) else (t, 0))
  else if t.i < (t.V.length : Int) then (t, 0) else foundT { t with stamp := t.now }
def seeksT (M : MemS) (t : TxS) : MemS × (TxS × Int) :=
  if t.part = 8 then (M.loadI 1, if oddB (M.atP 1) then ({ t with now := M.atP 1 }, 0) else seekEnd { t with now := M.atP 1, part := 9, i := 0 })
  else if t.part = 9 then (M.loadI (t.R.getD t.i.toNat (0, 0)).1, if M.atP (t.R.getD t.i.toNat (0, 0)).1 = (t.R.getD t.i.toNat (0, 0)).2 then seekEnd { t with i := t.i + 1 } else abortT t 2)
  else if t.part = 10 then (M.loadI 1, if M.atP 1 = t.now then seekEnd { t with part := 11, i := 0 } else ({ t with part := 8 }, 0))
  else ((watchesT M t t.i.toNat).1, if (watchesT M t t.i.toNat).2.2 then seekEnd (watchesT M t t.i.toNat).2.1 else abortT (watchesT M t t.i.toNat).2.1 3)

set_option maxHeartbeats 4000000 in
set_option maxRecDepth 100000 in
theorem xseeks_any {w : World} {a X ra wa : Nat} {v rv wv vv : Value} {M : MemS} {t : TxS} (h : NX w a v M X ra wa rv wv vv t) (hp : t.part = 8 ∨ (t.part = 9 ∧ 0 ≤ t.i ∧ t.i < (t.R.length : Int)) ∨ t.part = 10 ∨ (t.part = 11 ∧ 0 ≤ t.i ∧ t.i < (t.V.length : Int))) (hb : t.V.length < 1000000) : Calls Try.prog 51 #[.pointer (some ⟨X, 0, none⟩), .pointer (some ⟨a, 0, none⟩)] w fun e w' => e = .returned (.int .i64 (seeksT M t).2.2) ∧ NXP w w' a v (seeksT M t).1 X ra wa rv wv vv (seeksT M t).2.1 := by
  obtain ⟨res, hres⟩ : ∃ z, seeksT M t = z := ⟨_, rfl⟩
  rw [hres]
  obtain ⟨sq, hsq⟩ : ∃ z, M.atP 1 = z := ⟨_, rfl⟩
  have HSQ := Lib.hid hsq
  have hmp := h.tx.mp
  have hl := h.tx.lt
  by_cases p8 : t.part = 8
  · have c12 := h.tx.c 12 (u := .int .i64 8) (by rw [← p8]; rfl)
    have hr2 : res = (M.loadI 1, if oddB sq then ({ t with now := sq }, 0) else seekEnd { t with now := sq, part := 9, i := 0 }) := by rw [← hres]; unfold seeksT; rw [if_pos p8, hsq]
    clear hres hsq p8 hp
    cases ho : oddB sq with
    | true =>
      have HRES := Lib.hid (show res = (M.loadI 1, ({ t with now := sq }, 0)) by rw [hr2, ho]; rfl)
      have hob : (bits BinOp.and IntKind.i64 sq 1 == 1) = true := ho
      clear hr2 ho
      go_enter Try.func51, Try.ntmps51
      go_upto_region 4 with (first
        | (go_at_call 22; refine (seq_lit 3 1 3 0 4 1 seq1 _).mono ?_; rintro e w1 ⟨rfl, hk1⟩; have h1 := h.no hk1)
        | (go_at_call 52; refine (load_tot a v M 1 _ h1.mm).mono ?_; rw [HSQ.out]; rintro e w2 ⟨rfl, hm, hk2⟩; have h2 := h1.mem hm hk2; have f16 := h2.tx.f 16; have c16 := h2.tx.c 16 (u := .int .i64 t.now) rfl; have hl2 := h2.tx.lt))
      have h3 := h2.set 16 (.int .i64 sq) (t' := { t with now := sq }) rfl rfl rfl rfl
      have k3 := (hk1.no.trans (km_m hk2)).trans (kx_m (keepsX w2 X 16 (.int .i64 sq)))
      generalize w2.setCell ⟨X, 16, none⟩ (.int .i64 sq) = w3 at *
      clear c12 hmp hl h1 h2 f16 c16 hl2 hk1 hk2 hm
      have c16 := h3.tx.c 16 (u := .int .i64 sq) rfl
      go_wp2_with fail
      go_ret
      rw [HRES.out]
      exact ⟨rfl, h.km k3 h3⟩
    | false =>
      have HRES := Lib.hid (show res = (M.loadI 1, seekEnd { t with now := sq, part := 9, i := 0 }) by rw [hr2, ho]; rfl)
      have hob : (bits BinOp.and IntKind.i64 sq 1 == 1) = false := ho
      clear hr2 ho
      go_enter Try.func51, Try.ntmps51
      go_upto_region 4 with (first
        | (go_at_call 22; refine (seq_lit 3 1 3 0 4 1 seq1 _).mono ?_; rintro e w1 ⟨rfl, hk1⟩; have h1 := h.no hk1)
        | (go_at_call 52; refine (load_tot a v M 1 _ h1.mm).mono ?_; rw [HSQ.out]; rintro e w2 ⟨rfl, hm, hk2⟩; have h2 := h1.mem hm hk2; have f16 := h2.tx.f 16; have c16 := h2.tx.c 16 (u := .int .i64 t.now) rfl; have hl2 := h2.tx.lt))
      have h3 := h2.set 16 (.int .i64 sq) (t' := { t with now := sq }) rfl rfl rfl rfl
      have k3 := (hk1.no.trans (km_m hk2)).trans (kx_m (keepsX w2 X 16 (.int .i64 sq)))
      generalize w2.setCell ⟨X, 16, none⟩ (.int .i64 sq) = w3 at *
      clear c12 hmp hl h1 h2 f16 c16 hl2 hk1 hk2 hm
      have c16 := h3.tx.c 16 (u := .int .i64 sq) rfl
      have f12 := h3.tx.f 12; have f13 := h3.tx.f 13
      have c12 := h3.tx.c 12 (u := .int .i64 t.part) rfl; have c13 := h3.tx.c 13 (u := .int .i64 t.i) rfl
      have hl := h3.tx.lt
      have h4 := (h3.set 12 (.int .i64 9) (t' := { t with now := sq, part := 9 }) rfl rfl rfl rfl).set 13 (.int .i64 0) (t' := { t with now := sq, part := 9, i := 0 }) rfl rfl rfl rfl
      have kp := k3.trans (kx_m ((keepsX w3 X 12 (.int .i64 9)).trans (keepsX _ X 13 (.int .i64 0))))
      go_upto_region 22 with fail
      generalize (w3.setCell ⟨X, 12, none⟩ (.int .i64 9)).setCell ⟨X, 13, none⟩ (.int .i64 0) = ws at *
      clear c16 f12 f13 c12 c13 hl h3 k3
      obtain ⟨tt, htt⟩ : ∃ z, z = ({ t with now := sq, part := 9, i := 0 } : TxS) := ⟨_, rfl⟩
      have HP := Lib.hid (show tt.part = 9 by rw [htt])
      rw [← htt] at h4 HRES
      have hn := h4
      clear h4 htt
      have c12 := hn.tx.c 12 (u := .int .i64 9) (by rw [← HP.out]; rfl)
      have c13 := hn.tx.c 13 (u := .int .i64 tt.i) rfl
      have c7 := hn.tx.c 7 (u := .pointer (some ⟨ra, 0, none⟩)) rfl
      have hwl := fun n => (hn.no ((Keeps.refl NoS ws).drewN n)).tx.rlen
      have HWL := Lib.hid hwl
      clear hwl
      by_cases qi : (tt.R.length : Int) ≤ tt.i
      · have hq : decide ((tt.R.length : Int) ≤ tt.i) = true := decide_eq_true qi
        have HLE := Lib.hid (show seekEnd tt = ({ tt with part := 10 }, 0) by unfold seekEnd; rw [if_pos HP.out, if_pos qi])
        clear qi
        go_upto_region 22 with fail
        go_quiet ((go_at_call 71; exact Calls.quiet_of_same (HWL.out _)))
        go_upto_region 23 with fail
        have h2 := hn.no ((Keeps.refl NoS ws).drewN nq)
        have k2 : Keeps (kXm X a v) w (ws.drewN nq) := kp.trans (kx_m ((Keeps.refl (just X) ws).drewN nq))
        generalize ws.drewN nq = w20 at *
        clear c12 c13 c7 hn kp HWL
        have f12 := h2.tx.f 12
        have c12 := h2.tx.c 12 (u := .int .i64 9) (by rw [← HP.out]; rfl)
        have hl := h2.tx.lt
        have h3 := h2.set 12 (.int .i64 10) (t' := { tt with part := 10 }) rfl rfl rfl rfl
        have k3 := k2.trans (kx_m (keepsX w20 X 12 (.int .i64 10)))
        go_upto_region 24 with fail
        generalize w20.setCell ⟨X, 12, none⟩ (.int .i64 10) = w21 at *
        clear f12 c12 hl h2 k2
        have c12 := h3.tx.c 12 (u := .int .i64 10) rfl
        go_quiet (fail)
        go_wp2_with fail
        go_ret
        rw [HRES.out, HLE.out]
        exact ⟨rfl, NXP.after k3 (h3.self.no ((Keeps.refl NoS _).drewN _))⟩
      · have hq : decide ((tt.R.length : Int) ≤ tt.i) = false := decide_eq_false qi
        have HLE := Lib.hid (show seekEnd tt = (tt, 0) by unfold seekEnd; rw [if_pos HP.out, if_neg qi])
        clear qi
        go_upto_region 22 with fail
        go_quiet ((go_at_call 71; exact Calls.quiet_of_same (HWL.out _)))
        go_upto_region 24 with fail
        have h2 := hn.no ((Keeps.refl NoS ws).drewN nq)
        have k2 : Keeps (kXm X a v) w (ws.drewN nq) := kp.trans (kx_m ((Keeps.refl (just X) ws).drewN nq))
        generalize ws.drewN nq = w20 at *
        clear c12 c13 c7 hn kp HWL
        have c12 := h2.tx.c 12 (u := .int .i64 9) (by rw [← HP.out]; rfl)
        go_quiet (fail)
        go_wp2_with fail
        go_ret
        rw [HRES.out, HLE.out]
        exact ⟨rfl, NXP.after k2 (h2.self.no ((Keeps.refl NoS _).drewN _))⟩
  by_cases p9 : t.part = 9
  · obtain ⟨hi0, hi1⟩ : 0 ≤ t.i ∧ t.i < (t.R.length : Int) := by
      rcases hp with e | ⟨_, e⟩ | e | ⟨e, _⟩
      · exact absurd e p8
      · exact e
      · omega
      · omega
    obtain ⟨k, hk⟩ := Int.eq_ofNat_of_zero_le hi0
    have hkn : t.i.toNat = k := by rw [hk]; rfl
    have hkl : k < t.R.length := by omega
    have c12 := h.tx.c 12 (u := .int .i64 9) (by rw [← p9]; rfl)
    obtain ⟨o, ho⟩ : ∃ z, t.R.getD k (0, 0) = z := ⟨_, rfl⟩
    obtain ⟨oa, ov⟩ := o
    obtain ⟨at0, hat0⟩ : ∃ z, M.atP oa = z := ⟨_, rfl⟩
    have HAT := Lib.hid hat0
    have hr2 : res = (M.loadI oa, if at0 = ov then seekEnd { t with i := (k : Int) + 1 } else abortT t 2) := by rw [← hres]; unfold seeksT; rw [if_neg p8, if_pos p9, hkn, ho, ← hat0, hk]
    have HAY := Lib.hid (fun W (hh : NX W a v M X ra wa rv wv vv t) => rat_in ra rv 32 t.R k W hh.tx.rs hkl)
    have HO := Lib.hid ho
    have HK := Lib.hid hk
    have HP0 := Lib.hid p9
    have hk0 : (0 : Int) ≤ (k : Int) := by omega
    have HKW := Lib.hid (show IntKind.i64.wrap ((k : Int) + 1) = (k : Int) + 1 from IntWalk.i64_in _ (by have := h.tx.rs.small; omega))
    have HXF := Lib.hid (show ∀ g, txO X ra wa rv wv vv g ∨ own2m a v g → g < w.heap.size from fun g e => by
      rcases e with (e | e | e | e | e | e) | e
      · rw [e]; exact h.tx.lt
      · rw [e]; exact h.tx.ralt
      · rw [e]; exact h.tx.walt
      · exact h.tx.rvlt e
      · exact h.tx.wvlt e
      · exact h.tx.vvlt e
      · exact h.lt e)
    clear hres hsq p8 p9 hp hi0 hi1 hkn hkl ho hat0 hk hmp
    go_enter Try.func51, Try.ntmps51
    go_upto_region 8 with fail
    have hN := h.no ((Keeps.refl NoS w).drew)
    have k1 := (Keeps.refl NoS w).drew
    clear c12 hl
    refine wp_region_held_drew (S := (fun w' => w'.cell? ⟨X, 7, none⟩ = some (.pointer (some ⟨ra, 0, none⟩)) ∧ w'.cell? ⟨X, 13, none⟩ = some (.int .i64 (k : Int)))) (by kernel_rfl) (⟨hN.tx.c 7 rfl, hN.tx.c 13 (by rw [← HK.out]; rfl)⟩) (fun hHeld => ?_)
    generalize w.drew = wq at *
    apply wpAnyH_dag1 (R := (fun (g1 : Nat) (wq : World) => (NX wq a v M X ra wa rv wv vv t) ∧ (Keeps NoS w wq) ∧ (wq.heap[g1]? = some (.cells #[.int .i64 oa, .int .i64 ov] 54 (0, 0))) ∧ (w.heap.size ≤ g1)))
    · intro hD0
      apply wpAnyH_dag1 (R := (fun (g1 : Nat) (wq : World) => (NX wq a v M X ra wa rv wv vv t) ∧ (Keeps NoS w wq) ∧ (wq.heap[g1]? = some (.cells #[.int .i64 0, .int .i64 0] 54 (0, 0))) ∧ (w.heap.size ≤ g1)))
      · intro hD1
        apply wpAnyH_dag0 (R := (fun (wq : World) => (NX wq a v M X ra wa rv wv vv t) ∧ (Keeps NoS w wq)))
        · intro hD2
          apply wpAnyH_dag1 (R := (fun (g1 : Nat) (wq : World) => (NX wq a v M X ra wa rv wv vv t) ∧ (Keeps NoS w wq) ∧ (wq.heap[g1]? = some (.cells #[.int .i64 0, .int .i64 0] 54 (0, 0))) ∧ (w.heap.size ≤ g1)))
          · intro hD3
            refine wpAnyH_take (i := 0) (v := ?_) (by simp only [List.getElem?_toArray, List.getElem?_cons_succ, List.getElem?_cons_zero]; rfl) (by kernel_rfl) (by kernel_rfl) (by kernel_rfl) (by exact fun _ _ _ h => h) (Or.inl ⟨by rfl, ?_⟩) hHeld ?_
            rotate_left
            · intro w hSw; (try dsimp only at hSw); go_simp; (try with_reducible rfl)
            try simp only [Act.put, List.setIfInBounds_toArray, List.set_cons_zero, List.set_cons_succ]
            refine wpAnyH_take (i := 1) (v := ?_) (by simp only [List.getElem?_toArray, List.getElem?_cons_succ, List.getElem?_cons_zero]; rfl) (by kernel_rfl) (by kernel_rfl) (by kernel_rfl) (by exact fun _ _ _ h => h) (Or.inl ⟨by rfl, ?_⟩) hHeld ?_
            rotate_left
            · intro w hSw; (try dsimp only at hSw); go_simp; (try with_reducible rfl)
            try simp only [Act.put, List.setIfInBounds_toArray, List.set_cons_zero, List.set_cons_succ]
            refine wpAnyH_take (i := 2) (v := ?_) (by simp only [List.getElem?_toArray, List.getElem?_cons_succ, List.getElem?_cons_zero]; rfl) (by kernel_rfl) (by kernel_rfl) (by kernel_rfl) (by exact fun _ _ _ h => h) (Or.inl ⟨by rfl, ?_⟩) hHeld ?_
            rotate_left
            · intro w hSw; (try dsimp only at hSw); go_simp; (try with_reducible rfl)
            try simp only [Act.put, List.setIfInBounds_toArray, List.set_cons_zero, List.set_cons_succ]
            refine wpAnyH_take (i := 3) (v := ?_) (by simp only [List.getElem?_toArray, List.getElem?_cons_succ, List.getElem?_cons_zero]; rfl) (by kernel_rfl) (by kernel_rfl) (by kernel_rfl) (by exact fun _ _ _ h => h) (Or.inl ⟨by rfl, ?_⟩) hHeld ?_
            rotate_left
            · intro w hSw; (try dsimp only at hSw); go_simp; (try with_reducible rfl)
            try simp only [Act.put, List.setIfInBounds_toArray, List.set_cons_zero, List.set_cons_succ]
            refine wpAnyH_take (i := 4) (v := ?_) (by simp only [List.getElem?_toArray, List.getElem?_cons_succ, List.getElem?_cons_zero]; rfl) (by kernel_rfl) (by kernel_rfl) (by kernel_rfl) (by exact fun _ _ _ h => h) (Or.inl ⟨by rfl, ?_⟩) hHeld ?_
            rotate_left
            · intro w hSw; (try dsimp only at hSw); go_simp; (try with_reducible rfl)
            try simp only [Act.put, List.setIfInBounds_toArray, List.set_cons_zero, List.set_cons_succ]
            refine wpAnyH_take (i := 5) (v := ?_) (by simp only [List.getElem?_toArray, List.getElem?_cons_succ, List.getElem?_cons_zero]; rfl) (by kernel_rfl) (by kernel_rfl) (by kernel_rfl) (by exact fun _ _ _ h => h) (Or.inl ⟨by rfl, ?_⟩) hHeld ?_
            rotate_left
            · intro w hSw; (try dsimp only at hSw); go_simp; (try with_reducible rfl)
            try simp only [Act.put, List.setIfInBounds_toArray, List.set_cons_zero, List.set_cons_succ]
            refine wpAnyH_take (i := 6) (v := ?_) (by simp only [List.getElem?_toArray, List.getElem?_cons_succ, List.getElem?_cons_zero]; rfl) (by kernel_rfl) (by kernel_rfl) (by kernel_rfl) (by exact fun _ _ _ h => h) (Or.inl ⟨by rfl, ?_⟩) hHeld ?_
            rotate_left
            · intro w hSw; (try dsimp only at hSw); go_simp; (try with_reducible rfl)
            try simp only [Act.put, List.setIfInBounds_toArray, List.set_cons_zero, List.set_cons_succ]
            refine wpAnyH_take (i := 7) (v := ?_) (by simp only [List.getElem?_toArray, List.getElem?_cons_succ, List.getElem?_cons_zero]; rfl) (by kernel_rfl) (by kernel_rfl) (by kernel_rfl) (by exact fun _ _ _ h => h) (Or.inl ⟨by rfl, ?_⟩) hHeld ?_
            rotate_left
            · intro w hSw; (try dsimp only at hSw); go_simp; (try with_reducible rfl)
            try simp only [Act.put, List.setIfInBounds_toArray, List.set_cons_zero, List.set_cons_succ]
            refine wpAnyH_ready (rs := [8, 9]) (by kernel_rfl) (by simp) ?_
            refine AllReadyH.cons (by simp only [List.getElem?_toArray, List.getElem?_cons_succ, List.getElem?_cons_zero]; rfl) (fun kC hkC => ?_) (AllReadyH.cons (by simp only [List.getElem?_toArray, List.getElem?_cons_succ, List.getElem?_cons_zero]; rfl) (fun kC hkC => ?_) AllReadyH.nil)
            -- operation 8 of state 4
            · go_simp
              refine (HAY.out _ hN).mono ?_; rw [HO.out]; rintro e3 wq ⟨rfl, hkk⟩; have hN := hN.no hkk; have k1 := k1.trans hkk; (try have p1 := hkk.blk p1 (fun f => f)); clear hkk; (try go_wp2_with fail)
              refine hkC.out _ _ ?_ (fun hHeld => ?_)
              · exact (⟨hN.tx.c 7 rfl, hN.tx.c 13 (by rw [← HK.out]; rfl)⟩)
              clear hkC kC
              try simp only [Act.put, List.setIfInBounds_toArray, List.set_cons_zero, List.set_cons_succ]
              exact hD2  _ ⟨hN, k1⟩
            -- operation 9 of state 4
            · go_simp
              have n1 : w.heap.size ≤ wq.heap.size := k1.size; have p1 := heap_alloc_new wq (.cells #[.int .i64 0, .int .i64 0] 54); have k1 := k1.alloc (.cells #[.int .i64 0, .int .i64 0] 54); have hN := hN.no ((Keeps.refl NoS wq).alloc (.cells #[.int .i64 0, .int .i64 0] 54)); obtain ⟨g1, hg1⟩ : ∃ g, wq.heap.size = g := ⟨_, rfl⟩; rw [hg1] at n1 p1 ⊢; clear hg1; generalize wq.alloc (.cells #[.int .i64 0, .int .i64 0] 54) = wq at *
              refine hkC.out _ _ ?_ (fun hHeld => ?_)
              · exact (⟨hN.tx.c 7 rfl, hN.tx.c 13 (by rw [← HK.out]; rfl)⟩)
              clear hkC kC
              try simp only [Act.put, List.setIfInBounds_toArray, List.set_cons_zero, List.set_cons_succ]
              exact hD3 g1 _ ⟨hN, k1, p1, n1⟩
          · intro g1 wq hR
            obtain ⟨hN, k1, p1, n1⟩ := hR
            have hHeld : (fun w' => w'.cell? ⟨X, 7, none⟩ = some (.pointer (some ⟨ra, 0, none⟩)) ∧ w'.cell? ⟨X, 13, none⟩ = some (.int .i64 (k : Int))) wq := ⟨hN.tx.c 7 rfl, hN.tx.c 13 (by rw [← HK.out]; rfl)⟩
            refine wpAnyH_ready (rs := [8]) (by kernel_rfl) (by simp) ?_
            refine AllReadyH.cons (by simp only [List.getElem?_toArray, List.getElem?_cons_succ, List.getElem?_cons_zero]; rfl) (fun kC hkC => ?_) AllReadyH.nil
            -- operation 8 of state 3
            · go_simp
              refine (HAY.out _ hN).mono ?_; rw [HO.out]; rintro e3 wq ⟨rfl, hkk⟩; have hN := hN.no hkk; have k1 := k1.trans hkk; (try have p1 := hkk.blk p1 (fun f => f)); clear hkk; (try go_wp2_with fail)
              refine hkC.out _ _ ?_ (fun hHeld => ?_)
              · exact (⟨hN.tx.c 7 rfl, hN.tx.c 13 (by rw [← HK.out]; rfl)⟩)
              clear hkC kC
              try simp only [Act.put, List.setIfInBounds_toArray, List.set_cons_zero, List.set_cons_succ]
              exact hD1 g1 _ ⟨hN, k1, p1, n1⟩
        · intro wq hR
          obtain ⟨hN, k1⟩ := hR
          have hHeld : (fun w' => w'.cell? ⟨X, 7, none⟩ = some (.pointer (some ⟨ra, 0, none⟩)) ∧ w'.cell? ⟨X, 13, none⟩ = some (.int .i64 (k : Int))) wq := ⟨hN.tx.c 7 rfl, hN.tx.c 13 (by rw [← HK.out]; rfl)⟩
          refine wpAnyH_ready (rs := [9]) (by kernel_rfl) (by simp) ?_
          refine AllReadyH.cons (by simp only [List.getElem?_toArray, List.getElem?_cons_succ, List.getElem?_cons_zero]; rfl) (fun kC hkC => ?_) AllReadyH.nil
          -- operation 9 of state 2
          · go_simp
            have n1 : w.heap.size ≤ wq.heap.size := k1.size; have p1 := heap_alloc_new wq (.cells #[.int .i64 0, .int .i64 0] 54); have k1 := k1.alloc (.cells #[.int .i64 0, .int .i64 0] 54); have hN := hN.no ((Keeps.refl NoS wq).alloc (.cells #[.int .i64 0, .int .i64 0] 54)); obtain ⟨g1, hg1⟩ : ∃ g, wq.heap.size = g := ⟨_, rfl⟩; rw [hg1] at n1 p1 ⊢; clear hg1; generalize wq.alloc (.cells #[.int .i64 0, .int .i64 0] 54) = wq at *
            refine hkC.out _ _ ?_ (fun hHeld => ?_)
            · exact (⟨hN.tx.c 7 rfl, hN.tx.c 13 (by rw [← HK.out]; rfl)⟩)
            clear hkC kC
            try simp only [Act.put, List.setIfInBounds_toArray, List.set_cons_zero, List.set_cons_succ]
            exact hD1 g1 _ ⟨hN, k1, p1, n1⟩
      · intro g1 wq hR
        obtain ⟨hN, k1, p1, n1⟩ := hR
        have hHeld : (fun w' => w'.cell? ⟨X, 7, none⟩ = some (.pointer (some ⟨ra, 0, none⟩)) ∧ w'.cell? ⟨X, 13, none⟩ = some (.int .i64 (k : Int))) wq := ⟨hN.tx.c 7 rfl, hN.tx.c 13 (by rw [← HK.out]; rfl)⟩
        refine wpAnyH_ready (rs := [10]) (by kernel_rfl) (by simp) ?_
        refine AllReadyH.cons (by simp only [List.getElem?_toArray, List.getElem?_cons_succ, List.getElem?_cons_zero]; rfl) (fun kC hkC => ?_) AllReadyH.nil
        -- operation 10 of state 1
        · have y0 : wq.cell? ⟨g1, 0, none⟩ = some (.int .i64 0) := blk_cell p1 0; have y1 : wq.cell? ⟨g1, 1, none⟩ = some (.int .i64 0) := blk_cell p1 1; have yf0 := blk_free p1 0; have yf1 := blk_free p1 1; have yl := blk_lt p1; go_simp; have kk : Keeps (just g1) wq ((wq.setCell ⟨g1, 0, none⟩ (.int .i64 oa)).setCell ⟨g1, 1, none⟩ (.int .i64 ov)) := (keepsX wq g1 0 (.int .i64 oa)).trans (keepsX _ g1 1 (.int .i64 ov)); have p1 := blk_set (blk_set p1 0 (.int .i64 oa)) 1 (.int .i64 ov); have hN := hN.far kk (fun g e e2 => by have e3 : g = g1 := e2; have := HXF.out g e; omega); have k1 := k1.trans' kk (fun i hi e => by have e3 : i = g1 := e; omega); generalize (wq.setCell ⟨g1, 0, none⟩ (.int .i64 oa)).setCell ⟨g1, 1, none⟩ (.int .i64 ov) = wq at *; clear y0 y1 yf0 yf1 yl kk
          refine hkC.out _ _ ?_ (fun hHeld => ?_)
          · exact (⟨hN.tx.c 7 rfl, hN.tx.c 13 (by rw [← HK.out]; rfl)⟩)
          clear hkC kC
          try simp only [Act.put, List.setIfInBounds_toArray, List.set_cons_zero, List.set_cons_succ]
          exact hD0 g1 _ ⟨hN, k1, p1, n1⟩
    intro g1 wq hR
    obtain ⟨hN, k1, p1, n1⟩ := hR
    refine wpAnyH_done (by kernel_rfl) ?_ _
    clear hHeld
    have hoo := fun (w' : World) (S : Nat → Prop) (kk : Keeps S wq w') (hS : ¬ S g1) => kk.blk p1 hS
    have HOO := Lib.hid hoo
    have y0 : wq.cell? ⟨g1, 0, none⟩ = some (.int .i64 oa) := blk_cell p1 0
    have y1 : wq.cell? ⟨g1, 1, none⟩ = some (.int .i64 ov) := blk_cell p1 1
    have HN1 := Lib.hid (show ∀ g, own2m a v g → ¬ g = g1 from fun g e e2 => by have := HXF.out g (.inr e); omega)
    clear hoo
    by_cases qe : at0 = ov
    · have HRES := Lib.hid (show res = (M.loadI oa, seekEnd { t with i := (k : Int) + 1 }) by rw [hr2, if_pos qe])
      have hb1 : (at0 != ov) = false := by simpa using qe
      clear hr2 qe
      go_upto_region 12 with (go_at_call 52; refine (load_tot a v M oa _ hN.mm).mono ?_; rw [HAT.out]; rintro e w2 ⟨rfl, hm, hk2⟩; have h2 := hN.mem hm hk2; have y1' : w2.cell? ⟨g1, 1, none⟩ = some (.int .i64 ov) := hk2.cell y1 (fun e => HN1.out g1 e rfl))
      clear y0 y1 y1'
      have kq : Keeps (kXm X a v) w w2 := k1.no.trans (km_m hk2)
      have f13 := h2.tx.f 13
      have c13 := h2.tx.c 13 (u := .int .i64 (k : Int)) (by rw [← HK.out]; rfl)
      have hl := h2.tx.lt
      have h4 := h2.set 13 (.int .i64 ((k : Int) + 1)) (t' := { t with i := (k : Int) + 1 }) rfl rfl rfl rfl
      have kp := kq.trans (kx_m (keepsX w2 X 13 (.int .i64 ((k : Int) + 1))))
      have kw := HKW.out
      go_upto_region 22 with fail
      (try rw [kw])
      generalize w2.setCell ⟨X, 13, none⟩ (.int .i64 ((k : Int) + 1)) = ws at *
      clear f13 c13 hl h2 kq hm hk2 kw p1 n1 hN k1
      obtain ⟨tt, htt⟩ : ∃ z, z = ({ t with i := (k : Int) + 1 } : TxS) := ⟨_, rfl⟩
      have HP := Lib.hid (show tt.part = 9 by rw [htt]; exact HP0.out)
      rw [← htt] at h4 HRES
      have hn := h4
      clear h4 htt
      have c12 := hn.tx.c 12 (u := .int .i64 9) (by rw [← HP.out]; rfl)
      have c13 := hn.tx.c 13 (u := .int .i64 tt.i) rfl
      have c7 := hn.tx.c 7 (u := .pointer (some ⟨ra, 0, none⟩)) rfl
      have hwl := fun n => (hn.no ((Keeps.refl NoS ws).drewN n)).tx.rlen
      have HWL := Lib.hid hwl
      clear hwl
      by_cases qi : (tt.R.length : Int) ≤ tt.i
      · have hq : decide ((tt.R.length : Int) ≤ tt.i) = true := decide_eq_true qi
        have HLE := Lib.hid (show seekEnd tt = ({ tt with part := 10 }, 0) by unfold seekEnd; rw [if_pos HP.out, if_pos qi])
        clear qi
        go_upto_region 22 with fail
        go_quiet ((go_at_call 71; exact Calls.quiet_of_same (HWL.out _)))
        go_upto_region 23 with fail
        have h2 := hn.no ((Keeps.refl NoS ws).drewN nq)
        have k2 : Keeps (kXm X a v) w (ws.drewN nq) := kp.trans (kx_m ((Keeps.refl (just X) ws).drewN nq))
        generalize ws.drewN nq = w20 at *
        clear c12 c13 c7 hn kp HWL
        have f12 := h2.tx.f 12
        have c12 := h2.tx.c 12 (u := .int .i64 9) (by rw [← HP.out]; rfl)
        have hl := h2.tx.lt
        have h3 := h2.set 12 (.int .i64 10) (t' := { tt with part := 10 }) rfl rfl rfl rfl
        have k3 := k2.trans (kx_m (keepsX w20 X 12 (.int .i64 10)))
        go_upto_region 24 with fail
        generalize w20.setCell ⟨X, 12, none⟩ (.int .i64 10) = w21 at *
        clear f12 c12 hl h2 k2
        have c12 := h3.tx.c 12 (u := .int .i64 10) rfl
        go_quiet (fail)
        go_wp2_with fail
        go_ret
        rw [HRES.out, HLE.out]
        exact ⟨rfl, NXP.after k3 (h3.self.no ((Keeps.refl NoS _).drewN _))⟩
      · have hq : decide ((tt.R.length : Int) ≤ tt.i) = false := decide_eq_false qi
        have HLE := Lib.hid (show seekEnd tt = (tt, 0) by unfold seekEnd; rw [if_pos HP.out, if_neg qi])
        clear qi
        go_upto_region 22 with fail
        go_quiet ((go_at_call 71; exact Calls.quiet_of_same (HWL.out _)))
        go_upto_region 24 with fail
        have h2 := hn.no ((Keeps.refl NoS ws).drewN nq)
        have k2 : Keeps (kXm X a v) w (ws.drewN nq) := kp.trans (kx_m ((Keeps.refl (just X) ws).drewN nq))
        generalize ws.drewN nq = w20 at *
        clear c12 c13 c7 hn kp HWL
        have c12 := h2.tx.c 12 (u := .int .i64 9) (by rw [← HP.out]; rfl)
        go_quiet (fail)
        go_wp2_with fail
        go_ret
        rw [HRES.out, HLE.out]
        exact ⟨rfl, NXP.after k2 (h2.self.no ((Keeps.refl NoS _).drewN _))⟩
    · have HRES := Lib.hid (show res = (M.loadI oa, abortT t 2) by rw [hr2, if_neg qe])
      have hb1 : (at0 != ov) = true := by simpa using qe
      clear hr2 qe
      go_wp2_with (first
        | (go_at_call 52; refine (load_tot a v M oa _ hN.mm).mono ?_; rw [HAT.out]; rintro e w2 ⟨rfl, hm, hk2⟩; have h2 := hN.mem hm hk2; have y1' : w2.cell? ⟨g1, 1, none⟩ = some (.int .i64 ov) := hk2.cell y1 (fun e => HN1.out g1 e rfl))
        | (go_at_call 47; refine (xabort_any h2 2).mono ?_; rintro e w3 ⟨rfl, h3, k3⟩))
      go_ret
      rw [HRES.out]
      exact ⟨rfl, h.km ((k1.no.trans (km_m hk2)).trans (kx_m k3)) h3⟩
  by_cases p10 : t.part = 10
  · have c12 := h.tx.c 12 (u := .int .i64 10) (by rw [← p10]; rfl)
    have hr2 : res = (M.loadI 1, if sq = t.now then seekEnd { t with part := 11, i := 0 } else ({ t with part := 8 }, 0)) := by rw [← hres]; unfold seeksT; rw [if_neg p8, if_neg p9, if_pos p10, hsq]
    clear hres hsq p8 p9 p10 hp
    by_cases qs : sq = t.now
    · have HRES := Lib.hid (show res = (M.loadI 1, seekEnd { t with part := 11, i := 0 }) by rw [hr2, if_pos qs])
      have hb1 : (sq != t.now) = false := by simpa using qs
      clear hr2 qs
      go_enter Try.func51, Try.ntmps51
      go_upto_region 15 with (first
        | (go_at_call 22; refine (seq_lit 3 1 3 0 4 1 seq1 _).mono ?_; rintro e w1 ⟨rfl, hk1⟩; have h1 := h.no hk1)
        | (go_at_call 52; refine (load_tot a v M 1 _ h1.mm).mono ?_; rw [HSQ.out]; rintro e w2 ⟨rfl, hm, hk2⟩; have h2 := h1.mem hm hk2))
      clear c12 hl hmp h1
      have c16 := h2.tx.c 16 (u := .int .i64 t.now) rfl
      have f12 := h2.tx.f 12; have f13 := h2.tx.f 13
      have c12 := h2.tx.c 12 (u := .int .i64 t.part) rfl; have c13 := h2.tx.c 13 (u := .int .i64 t.i) rfl
      have hl := h2.tx.lt
      have h4 := (h2.set 12 (.int .i64 11) (t' := { t with part := 11 }) rfl rfl rfl rfl).set 13 (.int .i64 0) (t' := { t with part := 11, i := 0 }) rfl rfl rfl rfl
      have kp := (hk1.no.trans (km_m hk2)).trans (kx_m ((keepsX w2 X 12 (.int .i64 11)).trans (keepsX _ X 13 (.int .i64 0))))
      go_upto_region 22 with fail
      generalize (w2.setCell ⟨X, 12, none⟩ (.int .i64 11)).setCell ⟨X, 13, none⟩ (.int .i64 0) = ws at *
      clear c16 f12 f13 c12 c13 hl h2 hk1 hk2 hm
      obtain ⟨tt, htt⟩ : ∃ z, z = ({ t with part := 11, i := 0 } : TxS) := ⟨_, rfl⟩
      have HP := Lib.hid (show tt.part = 11 by rw [htt])
      rw [← htt] at h4 HRES
      have hn := h4
      clear h4 htt
      have c12 := hn.tx.c 12 (u := .int .i64 11) (by rw [← HP.out]; rfl)
      have HP9 := Lib.hid (show ¬ tt.part = 9 by rw [HP.out]; decide)
      go_upto_region 22 with fail
      go_quiet (fail)
      go_upto_region 24 with fail
      have h2 := hn.no ((Keeps.refl NoS ws).drewN nq)
      have k2 : Keeps (kXm X a v) w (ws.drewN nq) := kp.trans (kx_m ((Keeps.refl (just X) ws).drewN nq))
      generalize ws.drewN nq = w20 at *
      clear c12 hn kp
      obtain ⟨vp, vc, hvs⟩ := h2.tx.vsl
      subst hvs
      have c12 := h2.tx.c 12 (u := .int .i64 11) (by rw [← HP.out]; rfl)
      have c13 := h2.tx.c 13 (u := .int .i64 tt.i) rfl
      have c9 := h2.tx.c 9 (u := .slice vp tt.V.length vc) rfl
      by_cases qi : tt.i < (tt.V.length : Int)
      · have hq : decide (tt.i < (tt.V.length : Int)) = true := decide_eq_true qi
        have HLE := Lib.hid (show seekEnd tt = (tt, 0) by unfold seekEnd; rw [if_neg HP9.out, if_pos qi])
        clear qi
        go_quiet (fail)
        go_wp2_with fail
        go_ret
        rw [HRES.out, HLE.out]
        exact ⟨rfl, NXP.after k2 (h2.self.no ((Keeps.refl NoS _).drewN _))⟩
      · have hq : decide (tt.i < (tt.V.length : Int)) = false := decide_eq_false qi
        have HLE := Lib.hid (show seekEnd tt = foundT { tt with stamp := tt.now } by unfold seekEnd; rw [if_neg HP9.out, if_neg qi])
        clear qi
        go_quiet (fail)
        go_upto_region 26 with fail
        have h3 := h2.no ((Keeps.refl NoS w20).drewN nq)
        have k3 : Keeps (kXm X a v) w (w20.drewN nq) := k2.trans (kx_m ((Keeps.refl (just X) w20).drewN nq))
        generalize w20.drewN nq = w21 at *
        clear c9 c12 c13 h2 k2
        have c16 := h3.tx.c 16 (u := .int .i64 tt.now) rfl
        have f19 := h3.tx.f 19
        have c19 := h3.tx.c 19 (u := .int .i64 tt.stamp) rfl
        have hl := h3.tx.lt
        have h4 := h3.set 19 (.int .i64 tt.now) (t' := { tt with stamp := tt.now }) rfl rfl rfl rfl
        have k4 := k3.trans (kx_m (keepsX w21 X 19 (.int .i64 tt.now)))
        go_upto_region 27 with fail
        generalize w21.setCell ⟨X, 19, none⟩ (.int .i64 tt.now) = w22 at *
        clear c16 f19 c19 hl h3 k3
        go_wp2_with (go_at_call 72; refine (xfound_any h4).mono ?_; rintro e w23 ⟨rfl, h5, k5⟩)
        go_ret
        rw [HRES.out, HLE.out]
        exact ⟨rfl, NXP.after k4 (h4.kx k5 h5)⟩
    · have HRES := Lib.hid (show res = (M.loadI 1, ({ t with part := 8 }, 0)) by rw [hr2, if_neg qs])
      have hb1 : (sq != t.now) = true := by simpa using qs
      clear hr2 qs
      go_enter Try.func51, Try.ntmps51
      go_upto_region 15 with (first
        | (go_at_call 22; refine (seq_lit 3 1 3 0 4 1 seq1 _).mono ?_; rintro e w1 ⟨rfl, hk1⟩; have h1 := h.no hk1)
        | (go_at_call 52; refine (load_tot a v M 1 _ h1.mm).mono ?_; rw [HSQ.out]; rintro e w2 ⟨rfl, hm, hk2⟩; have h2 := h1.mem hm hk2))
      clear c12 hl hmp h1
      have c16 := h2.tx.c 16 (u := .int .i64 t.now) rfl
      have f12 := h2.tx.f 12
      have c12 := h2.tx.c 12 (u := .int .i64 t.part) rfl
      have hl := h2.tx.lt
      go_wp2_with fail
      go_ret
      rw [HRES.out]
      exact ⟨rfl, h.km ((hk1.no.trans (km_m hk2)).trans (kx_m (keepsX w2 X 12 (.int .i64 8)))) (h2.set 12 (.int .i64 8) rfl rfl rfl rfl)⟩
  obtain ⟨hp2, hi0, hi1⟩ : t.part = 11 ∧ 0 ≤ t.i ∧ t.i < (t.V.length : Int) := by
    rcases hp with e | ⟨e, _⟩ | e | e
    · exact absurd e p8
    · exact absurd e p9
    · exact absurd e p10
    · exact e
  obtain ⟨k, hk⟩ := Int.eq_ofNat_of_zero_le hi0
  have c12 := h.tx.c 12 (u := .int .i64 11) (by rw [← hp2]; rfl)
  have hkn : t.i.toNat = k := by rw [hk]; rfl
  obtain ⟨M2, t2, b2, hw⟩ : ∃ M2 t2 b2, watchesT M t k = (M2, (t2, b2)) := ⟨_, _, _, rfl⟩
  have hpt : t2.part = 11 := by
    have : t2 = (watchesT M t k).2.1 := by rw [hw]
    rw [this]; exact hp2
  have HP := Lib.hid hpt
  have hcw := xwatches_any h k hk (by omega) hb
  rw [hw] at hcw
  dsimp only at hcw
  have HCW := Lib.hid hcw
  have hr2 : res = (M2, if b2 then seekEnd t2 else abortT t2 3) := by rw [← hres]; unfold seeksT; rw [if_neg p8, if_neg p9, if_neg p10, hkn, hw]
  cases b2 with
  | true =>
    have HRES := Lib.hid (show res = (M2, seekEnd t2) from hr2)
    clear hres hr2 hkn hw hcw hk hi0 hi1 hp2 p8 p9 p10 hp hpt hsq hmp
    obtain ⟨tt, htt⟩ : ∃ z, z = t2 := ⟨_, rfl⟩
    subst htt
    go_enter Try.func51, Try.ntmps51
    go_upto_region 22 with (go_at_call 70; refine HCW.out.mono ?_; rintro e ws ⟨rfl, hn, kp⟩)
    clear c12 hl HCW
    have c12 := hn.tx.c 12 (u := .int .i64 11) (by rw [← HP.out]; rfl)
    have HP9 := Lib.hid (show ¬ tt.part = 9 by rw [HP.out]; decide)
    go_upto_region 22 with fail
    go_quiet (fail)
    go_upto_region 24 with fail
    have h2 := hn.no ((Keeps.refl NoS ws).drewN nq)
    have k2 : Keeps (kXm X a v) w (ws.drewN nq) := kp.trans (kx_m ((Keeps.refl (just X) ws).drewN nq))
    generalize ws.drewN nq = w20 at *
    clear c12 hn kp
    obtain ⟨vp, vc, hvs⟩ := h2.tx.vsl
    subst hvs
    have c12 := h2.tx.c 12 (u := .int .i64 11) (by rw [← HP.out]; rfl)
    have c13 := h2.tx.c 13 (u := .int .i64 tt.i) rfl
    have c9 := h2.tx.c 9 (u := .slice vp tt.V.length vc) rfl
    by_cases qi : tt.i < (tt.V.length : Int)
    · have hq : decide (tt.i < (tt.V.length : Int)) = true := decide_eq_true qi
      have HLE := Lib.hid (show seekEnd tt = (tt, 0) by unfold seekEnd; rw [if_neg HP9.out, if_pos qi])
      clear qi
      go_quiet (fail)
      go_wp2_with fail
      go_ret
      rw [HRES.out, HLE.out]
      exact ⟨rfl, NXP.after k2 (h2.self.no ((Keeps.refl NoS _).drewN _))⟩
    · have hq : decide (tt.i < (tt.V.length : Int)) = false := decide_eq_false qi
      have HLE := Lib.hid (show seekEnd tt = foundT { tt with stamp := tt.now } by unfold seekEnd; rw [if_neg HP9.out, if_neg qi])
      clear qi
      go_quiet (fail)
      go_upto_region 26 with fail
      have h3 := h2.no ((Keeps.refl NoS w20).drewN nq)
      have k3 : Keeps (kXm X a v) w (w20.drewN nq) := k2.trans (kx_m ((Keeps.refl (just X) w20).drewN nq))
      generalize w20.drewN nq = w21 at *
      clear c9 c12 c13 h2 k2
      have c16 := h3.tx.c 16 (u := .int .i64 tt.now) rfl
      have f19 := h3.tx.f 19
      have c19 := h3.tx.c 19 (u := .int .i64 tt.stamp) rfl
      have hl := h3.tx.lt
      have h4 := h3.set 19 (.int .i64 tt.now) (t' := { tt with stamp := tt.now }) rfl rfl rfl rfl
      have k4 := k3.trans (kx_m (keepsX w21 X 19 (.int .i64 tt.now)))
      go_upto_region 27 with fail
      generalize w21.setCell ⟨X, 19, none⟩ (.int .i64 tt.now) = w22 at *
      clear c16 f19 c19 hl h3 k3
      go_wp2_with (go_at_call 72; refine (xfound_any h4).mono ?_; rintro e w23 ⟨rfl, h5, k5⟩)
      go_ret
      rw [HRES.out, HLE.out]
      exact ⟨rfl, NXP.after k4 (h4.kx k5 h5)⟩
  | false =>
    have HRES := Lib.hid (show res = (M2, abortT t2 3) from hr2)
    clear hres hr2 hkn hw hcw hk hi0 hi1 hp2 p8 p9 p10 hp hpt hsq hmp
    go_enter Try.func51, Try.ntmps51
    go_wp2_with (first
      | (go_at_call 70; refine HCW.out.mono ?_; rintro e ws ⟨rfl, hn, kp⟩)
      | (go_at_call 47; refine (xabort_any hn 3).mono ?_; rintro e w3 ⟨rfl, h3, k3⟩))
    go_ret
    rw [HRES.out]
    exact ⟨rfl, h.km (kp.trans (kx_m k3)) h3⟩
end Go.Proofs.Ytfmamedkiaimpaa
