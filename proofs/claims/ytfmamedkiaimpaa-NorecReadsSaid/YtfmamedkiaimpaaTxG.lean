/- Package norec: commit. -/
import Derived.Test.YtfmamedkiaimpaaTxF
import Derived.Test.YtfmamedkiaimpaaDag3
namespace Go.Proofs.Ytfmamedkiaimpaa
open Go.RowKit
theorem wrap_w (n : Int) : IntKind.i64.wrap n = wrap64 n := by rw [IntKind.wrap_i64]; unfold wrap64; rfl
def commitT (M : MemS) (t : TxS) : MemS × (TxS × Int) :=
  if t.part = 3 then (M.storeI (phA t) 2, if (0 : Int) < t.W.length then mayTakeT { t with phased := true, part := 4 } else (settleT { t with phased := true, part := 2, i := 0 }, 0))
  else if t.part = 4 then (M.swapI 1 t.stamp (wrap64 (t.stamp + 1)), if M.swapOk 1 t.stamp then (settleT { t with took := true, made := wrap64 (t.stamp + 2), part := 2, i := 0 }, 0) else ({ t with part := 8 }, 0))
  else if t.part = 2 then ((watchesT M t t.i.toNat).1, if (watchesT M t t.i.toNat).2.2 then (settleT (watchesT M t t.i.toNat).2.1, 0) else abortT (watchesT M t t.i.toNat).2.1 3)
  else if t.part = 5 then (M.storeI (t.W.getD t.i.toNat (0, 0)).1 (t.W.getD t.i.toNat (0, 0)).2, (settleT { t with i := t.i + 1 }, 0))
  else if t.part = 6 then (M.storeI 1 t.made, (settleT { t with took := false, part := 7 }, 0))
  else (M.storeI (phA t) 0, (doneT (if (0 : Int) < t.W.length then { t with phased := false, stamp := t.made } else { t with phased := false }), 1))

set_option maxHeartbeats 40000000 in
set_option maxRecDepth 100000 in
theorem xcommit_any {w : World} {a X ra wa : Nat} {v rv wv vv : Value} {M : MemS} {t : TxS} (h : NX w a v M X ra wa rv wv vv t) (hp : t.part = 3 ∨ t.part = 4 ∨ (t.part = 2 ∧ 0 ≤ t.i ∧ t.i < (t.V.length : Int)) ∨ (t.part = 5 ∧ 0 ≤ t.i ∧ t.i < (t.W.length : Int)) ∨ t.part = 6 ∨ t.part = 7) (hb : t.V.length < 1000000) : Calls Try.prog 55 #[.pointer (some ⟨X, 0, none⟩), .pointer (some ⟨a, 0, none⟩)] w fun e w' => e = .returned (.int .i64 (commitT M t).2.2) ∧ NXP w w' a v (commitT M t).1 X ra wa rv wv vv (commitT M t).2.1 := by
  obtain ⟨res, hres⟩ : ∃ z, commitT M t = z := ⟨_, rfl⟩
  rw [hres]
  have HPH := Lib.hid (show threadP ⟨3, 1, 3, 0, 4⟩ t.th 0 = phA t from rfl)
  have hl := h.tx.lt
  by_cases p3 : t.part = 3
  · have c12 := h.tx.c 12 (u := .int .i64 3) (by rw [← p3]; rfl)
    have hr2 : res = (M.storeI (phA t) 2, if (0 : Int) < t.W.length then mayTakeT { t with phased := true, part := 4 } else (settleT { t with phased := true, part := 2, i := 0 }, 0)) := by rw [← hres]; unfold commitT; rw [if_pos p3]
    clear hres p3 hp
    by_cases qw : (0 : Int) < t.W.length
    · have hwn : 0 < t.W.length := by omega
      have HRES := Lib.hid (show res = (M.storeI (phA t) 2, mayTakeT { t with phased := true, part := 4 }) by rw [hr2, if_pos qw])
      clear hr2 qw
      go_enter Try.func55, Try.ntmps55
      go_upto_region 3 with fail
      have hd := h.no ((Keeps.refl NoS w).drew)
      clear c12 hl
      refine wp_region_held_drew (S := (fun w' => (w'.cell? ⟨X, 0, none⟩ = some (.int .i64 3) ∧ w'.cell? ⟨X, 1, none⟩ = some (.int .i64 1) ∧ w'.cell? ⟨X, 2, none⟩ = some (.int .i64 3) ∧ w'.cell? ⟨X, 3, none⟩ = some (.int .i64 0) ∧ w'.cell? ⟨X, 4, none⟩ = some (.int .i64 4)) ∧ w'.cell? ⟨X, 5, none⟩ = some (.int .i64 t.th))) (by kernel_rfl) (⟨hd.tx.mp, hd.tx.c 5 rfl⟩) (fun hHeld => ?_)
      refine wpAnyH_take (i := 0) (v := ?_) (by simp only [List.getElem?_toArray, List.getElem?_cons_succ, List.getElem?_cons_zero]; rfl) (by kernel_rfl) (by kernel_rfl) (by kernel_rfl) (by exact fun _ _ _ h => h) (Or.inl ⟨by rfl, ?_⟩) hHeld ?_
      rotate_left
      · intro w hSw; (try dsimp only at hSw); go_simp; (try with_reducible rfl)
      try simp only [Act.put, List.setIfInBounds_toArray, List.set_cons_zero, List.set_cons_succ]
      refine wpAnyH_take (i := 1) (v := ?_) (by simp only [List.getElem?_toArray, List.getElem?_cons_succ, List.getElem?_cons_zero]; rfl) (by kernel_rfl) (by kernel_rfl) (by kernel_rfl) (by exact fun _ _ _ h => h) (Or.inl ⟨by rfl, ?_⟩) hHeld ?_
      rotate_left
      · intro w hSw; (try dsimp only at hSw); go_simp; (try with_reducible rfl)
      try simp only [Act.put, List.setIfInBounds_toArray, List.set_cons_zero, List.set_cons_succ]
      refine wpAnyH_take (i := 2) (v := ?_) (by simp only [List.getElem?_toArray, List.getElem?_cons_succ, List.getElem?_cons_zero]; rfl) (by kernel_rfl) (by kernel_rfl) (by kernel_rfl) (by exact fun _ _ _ h => h) (Or.inl ⟨by rfl, ?_⟩) hHeld ?_
      rotate_left
      · intro w hSw; (try dsimp only at hSw); go_simp; (try with_reducible rfl)
      try simp only [Act.put, List.setIfInBounds_toArray, List.set_cons_zero, List.set_cons_succ]
      refine wpAnyH_take (i := 3) (v := ?_) (by simp only [List.getElem?_toArray, List.getElem?_cons_succ, List.getElem?_cons_zero]; rfl) (by kernel_rfl) (by kernel_rfl) (by kernel_rfl) (by exact fun _ _ _ h => h) (Or.inl ⟨by rfl, ?_⟩) hHeld ?_
      rotate_left
      · intro w hSw; (try dsimp only at hSw); go_simp; (try with_reducible rfl)
      try simp only [Act.put, List.setIfInBounds_toArray, List.set_cons_zero, List.set_cons_succ]
      refine wpAnyH_take (i := 4) (v := ?_) (by simp only [List.getElem?_toArray, List.getElem?_cons_succ, List.getElem?_cons_zero]; rfl) (by kernel_rfl) (by kernel_rfl) (by kernel_rfl) (by exact fun _ _ _ h => h) (Or.inl ⟨by rfl, ?_⟩) hHeld ?_
      rotate_left
      · intro w hSw; (try dsimp only at hSw); go_simp; (try with_reducible rfl)
      try simp only [Act.put, List.setIfInBounds_toArray, List.set_cons_zero, List.set_cons_succ]
      refine wpAnyH_take (i := 5) (v := ?_) (by simp only [List.getElem?_toArray, List.getElem?_cons_succ, List.getElem?_cons_zero]; rfl) (by kernel_rfl) (by kernel_rfl) (by kernel_rfl) (by exact fun _ _ _ h => h) (Or.inl ⟨by rfl, ?_⟩) hHeld ?_
      rotate_left
      · intro w hSw; (try dsimp only at hSw); go_simp; (try with_reducible rfl)
      try simp only [Act.put, List.setIfInBounds_toArray, List.set_cons_zero, List.set_cons_succ]
      refine wpAnyH_take (i := 6) (v := ?_) (by simp only [List.getElem?_toArray, List.getElem?_cons_succ, List.getElem?_cons_zero]; rfl) (by kernel_rfl) (by kernel_rfl) (by kernel_rfl) (by exact fun _ _ _ h => h) (Or.inl ⟨by rfl, ?_⟩) hHeld ?_
      rotate_left
      · intro w hSw; (try dsimp only at hSw); go_simp; (try with_reducible rfl)
      try simp only [Act.put, List.setIfInBounds_toArray, List.set_cons_zero, List.set_cons_succ]
      refine wpAnyH_take (i := 7) (v := ?_) (by simp only [List.getElem?_toArray, List.getElem?_cons_succ, List.getElem?_cons_zero]; rfl) (by kernel_rfl) (by kernel_rfl) (by kernel_rfl) (by exact fun _ _ _ h => h) (Or.inl ⟨by rfl, ?_⟩) hHeld ?_
      rotate_left
      · intro w hSw; (try dsimp only at hSw); go_simp; (try with_reducible rfl)
      try simp only [Act.put, List.setIfInBounds_toArray, List.set_cons_zero, List.set_cons_succ]
      refine wpAnyH_take (i := 8) (v := ?_) (by simp only [List.getElem?_toArray, List.getElem?_cons_succ, List.getElem?_cons_zero]; rfl) (by kernel_rfl) (by kernel_rfl) (by kernel_rfl) (by exact fun _ _ _ h => h) (Or.inl ⟨by rfl, ?_⟩) hHeld ?_
      rotate_left
      · intro w hSw; (try dsimp only at hSw); go_simp; (try with_reducible rfl)
      try simp only [Act.put, List.setIfInBounds_toArray, List.set_cons_zero, List.set_cons_succ]
      refine wpAnyH_ready (rs := [9]) (by kernel_rfl) (by simp) ?_
      refine AllReadyH.cons (by simp only [List.getElem?_toArray, List.getElem?_cons_succ, List.getElem?_cons_zero]; rfl) (fun kC hkC => ?_) AllReadyH.nil
      go_simp
      refine (threadAt_lit 3 1 3 0 4 t.th 0 (phA t) HPH.out _).mono ?_; rintro e w2 ⟨rfl, hk2⟩; have h2 := hd.no hk2
      (try go_wp2_with fail)
      refine hkC.out _ _ (⟨h2.tx.mp, h2.tx.c 5 rfl⟩) (fun hHeld => ?_)
      clear hkC kC
      try simp only [Act.put, List.setIfInBounds_toArray, List.set_cons_zero, List.set_cons_succ]
      refine wpAnyH_ready (rs := [10]) (by kernel_rfl) (by simp) ?_
      refine AllReadyH.cons (by simp only [List.getElem?_toArray, List.getElem?_cons_succ, List.getElem?_cons_zero]; rfl) (fun kC hkC => ?_) AllReadyH.nil
      go_simp
      refine (store_tot a v M (phA t) 2 _ h2.mm).mono ?_; rintro e w3 ⟨rfl, hm, hk3⟩; have h3 := h2.mem hm hk3
      (try go_wp2_with fail)
      refine hkC.out _ _ (⟨h3.tx.mp, h3.tx.c 5 rfl⟩) (fun hHeld => ?_)
      clear hkC kC
      try simp only [Act.put, List.setIfInBounds_toArray, List.set_cons_zero, List.set_cons_succ]
      refine wpAnyH_done (by kernel_rfl) ?_ _
      have k3' : Keeps (kXm X a v) w w3 := (kx_m ((Keeps.refl (just X) w).drew)).trans (hk2.no.trans (km_m hk3))
      clear hm hk2 hk3 h2 hd hHeld
      have f22 := h3.tx.f 22; have c22 := h3.tx.c 22 (u := .bool t.phased) rfl; have hl := h3.tx.lt
      have h4 := h3.set 22 (.bool true) (t' := { t with phased := true }) rfl rfl rfl rfl
      have k4 := k3'.trans (kx_m (keepsX w3 X 22 (.bool true)))
      go_upto_region 5 with fail
      generalize w3.setCell ⟨X, 22, none⟩ (.bool true) = w4 at *
      clear f22 c22 hl h3 k3'
      have f12 := h4.tx.f 12; have c12 := h4.tx.c 12 (u := .int .i64 t.part) rfl; have hl := h4.tx.lt
      have c8 := h4.tx.c 8 (u := .pointer (some ⟨wa, 0, none⟩)) rfl
      have h5 := h4.set 12 (.int .i64 4) (t' := { t with phased := true, part := 4 }) rfl rfl rfl rfl
      have k5 := k4.trans (kx_m (keepsX w4 X 12 (.int .i64 4)))
      go_upto_region 7 with (go_at_call 74; refine h4.tx.wlen.mono ?_; rintro e w5 ⟨rfl, hw⟩; obtain rfl := hw.symm)
      generalize w4.setCell ⟨X, 12, none⟩ (.int .i64 4) = w6 at *
      clear f12 c12 hl c8 h4 k4
      go_wp2_with (go_at_call 75; refine (xmayTake_any h5).mono ?_; rintro e w7 ⟨rfl, h7, k7⟩)
      go_ret
      rw [HRES.out]
      exact ⟨rfl, h.km (k5.trans (kx_m k7)) h7⟩
    · have hwn : ¬ 0 < t.W.length := by omega
      have HRES := Lib.hid (show res = (M.storeI (phA t) 2, (settleT { t with phased := true, part := 2, i := 0 }, 0)) by rw [hr2, if_neg qw])
      clear hr2 qw
      go_enter Try.func55, Try.ntmps55
      go_upto_region 3 with fail
      have hd := h.no ((Keeps.refl NoS w).drew)
      clear c12 hl
      refine wp_region_held_drew (S := (fun w' => (w'.cell? ⟨X, 0, none⟩ = some (.int .i64 3) ∧ w'.cell? ⟨X, 1, none⟩ = some (.int .i64 1) ∧ w'.cell? ⟨X, 2, none⟩ = some (.int .i64 3) ∧ w'.cell? ⟨X, 3, none⟩ = some (.int .i64 0) ∧ w'.cell? ⟨X, 4, none⟩ = some (.int .i64 4)) ∧ w'.cell? ⟨X, 5, none⟩ = some (.int .i64 t.th))) (by kernel_rfl) (⟨hd.tx.mp, hd.tx.c 5 rfl⟩) (fun hHeld => ?_)
      refine wpAnyH_take (i := 0) (v := ?_) (by simp only [List.getElem?_toArray, List.getElem?_cons_succ, List.getElem?_cons_zero]; rfl) (by kernel_rfl) (by kernel_rfl) (by kernel_rfl) (by exact fun _ _ _ h => h) (Or.inl ⟨by rfl, ?_⟩) hHeld ?_
      rotate_left
      · intro w hSw; (try dsimp only at hSw); go_simp; (try with_reducible rfl)
      try simp only [Act.put, List.setIfInBounds_toArray, List.set_cons_zero, List.set_cons_succ]
      refine wpAnyH_take (i := 1) (v := ?_) (by simp only [List.getElem?_toArray, List.getElem?_cons_succ, List.getElem?_cons_zero]; rfl) (by kernel_rfl) (by kernel_rfl) (by kernel_rfl) (by exact fun _ _ _ h => h) (Or.inl ⟨by rfl, ?_⟩) hHeld ?_
      rotate_left
      · intro w hSw; (try dsimp only at hSw); go_simp; (try with_reducible rfl)
      try simp only [Act.put, List.setIfInBounds_toArray, List.set_cons_zero, List.set_cons_succ]
      refine wpAnyH_take (i := 2) (v := ?_) (by simp only [List.getElem?_toArray, List.getElem?_cons_succ, List.getElem?_cons_zero]; rfl) (by kernel_rfl) (by kernel_rfl) (by kernel_rfl) (by exact fun _ _ _ h => h) (Or.inl ⟨by rfl, ?_⟩) hHeld ?_
      rotate_left
      · intro w hSw; (try dsimp only at hSw); go_simp; (try with_reducible rfl)
      try simp only [Act.put, List.setIfInBounds_toArray, List.set_cons_zero, List.set_cons_succ]
      refine wpAnyH_take (i := 3) (v := ?_) (by simp only [List.getElem?_toArray, List.getElem?_cons_succ, List.getElem?_cons_zero]; rfl) (by kernel_rfl) (by kernel_rfl) (by kernel_rfl) (by exact fun _ _ _ h => h) (Or.inl ⟨by rfl, ?_⟩) hHeld ?_
      rotate_left
      · intro w hSw; (try dsimp only at hSw); go_simp; (try with_reducible rfl)
      try simp only [Act.put, List.setIfInBounds_toArray, List.set_cons_zero, List.set_cons_succ]
      refine wpAnyH_take (i := 4) (v := ?_) (by simp only [List.getElem?_toArray, List.getElem?_cons_succ, List.getElem?_cons_zero]; rfl) (by kernel_rfl) (by kernel_rfl) (by kernel_rfl) (by exact fun _ _ _ h => h) (Or.inl ⟨by rfl, ?_⟩) hHeld ?_
      rotate_left
      · intro w hSw; (try dsimp only at hSw); go_simp; (try with_reducible rfl)
      try simp only [Act.put, List.setIfInBounds_toArray, List.set_cons_zero, List.set_cons_succ]
      refine wpAnyH_take (i := 5) (v := ?_) (by simp only [List.getElem?_toArray, List.getElem?_cons_succ, List.getElem?_cons_zero]; rfl) (by kernel_rfl) (by kernel_rfl) (by kernel_rfl) (by exact fun _ _ _ h => h) (Or.inl ⟨by rfl, ?_⟩) hHeld ?_
      rotate_left
      · intro w hSw; (try dsimp only at hSw); go_simp; (try with_reducible rfl)
      try simp only [Act.put, List.setIfInBounds_toArray, List.set_cons_zero, List.set_cons_succ]
      refine wpAnyH_take (i := 6) (v := ?_) (by simp only [List.getElem?_toArray, List.getElem?_cons_succ, List.getElem?_cons_zero]; rfl) (by kernel_rfl) (by kernel_rfl) (by kernel_rfl) (by exact fun _ _ _ h => h) (Or.inl ⟨by rfl, ?_⟩) hHeld ?_
      rotate_left
      · intro w hSw; (try dsimp only at hSw); go_simp; (try with_reducible rfl)
      try simp only [Act.put, List.setIfInBounds_toArray, List.set_cons_zero, List.set_cons_succ]
      refine wpAnyH_take (i := 7) (v := ?_) (by simp only [List.getElem?_toArray, List.getElem?_cons_succ, List.getElem?_cons_zero]; rfl) (by kernel_rfl) (by kernel_rfl) (by kernel_rfl) (by exact fun _ _ _ h => h) (Or.inl ⟨by rfl, ?_⟩) hHeld ?_
      rotate_left
      · intro w hSw; (try dsimp only at hSw); go_simp; (try with_reducible rfl)
      try simp only [Act.put, List.setIfInBounds_toArray, List.set_cons_zero, List.set_cons_succ]
      refine wpAnyH_take (i := 8) (v := ?_) (by simp only [List.getElem?_toArray, List.getElem?_cons_succ, List.getElem?_cons_zero]; rfl) (by kernel_rfl) (by kernel_rfl) (by kernel_rfl) (by exact fun _ _ _ h => h) (Or.inl ⟨by rfl, ?_⟩) hHeld ?_
      rotate_left
      · intro w hSw; (try dsimp only at hSw); go_simp; (try with_reducible rfl)
      try simp only [Act.put, List.setIfInBounds_toArray, List.set_cons_zero, List.set_cons_succ]
      refine wpAnyH_ready (rs := [9]) (by kernel_rfl) (by simp) ?_
      refine AllReadyH.cons (by simp only [List.getElem?_toArray, List.getElem?_cons_succ, List.getElem?_cons_zero]; rfl) (fun kC hkC => ?_) AllReadyH.nil
      go_simp
      refine (threadAt_lit 3 1 3 0 4 t.th 0 (phA t) HPH.out _).mono ?_; rintro e w2 ⟨rfl, hk2⟩; have h2 := hd.no hk2
      (try go_wp2_with fail)
      refine hkC.out _ _ (⟨h2.tx.mp, h2.tx.c 5 rfl⟩) (fun hHeld => ?_)
      clear hkC kC
      try simp only [Act.put, List.setIfInBounds_toArray, List.set_cons_zero, List.set_cons_succ]
      refine wpAnyH_ready (rs := [10]) (by kernel_rfl) (by simp) ?_
      refine AllReadyH.cons (by simp only [List.getElem?_toArray, List.getElem?_cons_succ, List.getElem?_cons_zero]; rfl) (fun kC hkC => ?_) AllReadyH.nil
      go_simp
      refine (store_tot a v M (phA t) 2 _ h2.mm).mono ?_; rintro e w3 ⟨rfl, hm, hk3⟩; have h3 := h2.mem hm hk3
      (try go_wp2_with fail)
      refine hkC.out _ _ (⟨h3.tx.mp, h3.tx.c 5 rfl⟩) (fun hHeld => ?_)
      clear hkC kC
      try simp only [Act.put, List.setIfInBounds_toArray, List.set_cons_zero, List.set_cons_succ]
      refine wpAnyH_done (by kernel_rfl) ?_ _
      have k3' : Keeps (kXm X a v) w w3 := (kx_m ((Keeps.refl (just X) w).drew)).trans (hk2.no.trans (km_m hk3))
      clear hm hk2 hk3 h2 hd hHeld
      have f22 := h3.tx.f 22; have c22 := h3.tx.c 22 (u := .bool t.phased) rfl; have hl := h3.tx.lt
      have h4 := h3.set 22 (.bool true) (t' := { t with phased := true }) rfl rfl rfl rfl
      have k4 := k3'.trans (kx_m (keepsX w3 X 22 (.bool true)))
      go_upto_region 5 with fail
      generalize w3.setCell ⟨X, 22, none⟩ (.bool true) = w4 at *
      clear f22 c22 hl h3 k3'
      have f12 := h4.tx.f 12; have f13 := h4.tx.f 13
      have c12 := h4.tx.c 12 (u := .int .i64 t.part) rfl; have c13 := h4.tx.c 13 (u := .int .i64 t.i) rfl
      have hl := h4.tx.lt
      have c8 := h4.tx.c 8 (u := .pointer (some ⟨wa, 0, none⟩)) rfl
      have h5 := (h4.set 12 (.int .i64 2) (t' := { t with phased := true, part := 2 }) rfl rfl rfl rfl).set 13 (.int .i64 0) (t' := { t with phased := true, part := 2, i := 0 }) rfl rfl rfl rfl
      have k5 := k4.trans (kx_m ((keepsX w4 X 12 (.int .i64 2)).trans (keepsX _ X 13 (.int .i64 0))))
      go_upto_region 32 with (go_at_call 74; refine h4.tx.wlen.mono ?_; rintro e w5 ⟨rfl, hw⟩; obtain rfl := hw.symm)
      generalize (w4.setCell ⟨X, 12, none⟩ (.int .i64 2)).setCell ⟨X, 13, none⟩ (.int .i64 0) = w6 at *
      clear f12 f13 c12 c13 hl c8 h4 k4
      go_wp2_with (go_at_call 77; refine (xsettle_any h5).mono ?_; rintro e w9 ⟨rfl, h9, k9⟩)
      go_ret
      rw [HRES.out]
      exact ⟨rfl, h.km (k5.trans (kx_m k9)) h9⟩
  by_cases p4 : t.part = 4
  · have c12 := h.tx.c 12 (u := .int .i64 4) (by rw [← p4]; rfl)
    have hr2 : res = (M.swapI 1 t.stamp (wrap64 (t.stamp + 1)), if M.swapOk 1 t.stamp then (settleT { t with took := true, made := wrap64 (t.stamp + 2), part := 2, i := 0 }, 0) else ({ t with part := 8 }, 0)) := by rw [← hres]; unfold commitT; rw [if_neg p3, if_pos p4]
    clear hres p3 p4 hp
    cases qs : M.swapOk 1 t.stamp with
    | true =>
      have HRES := Lib.hid (show res = (M.swapI 1 t.stamp (wrap64 (t.stamp + 1)), (settleT { t with took := true, made := wrap64 (t.stamp + 2), part := 2, i := 0 }, 0)) by rw [hr2, qs]; rfl)
      have HSO := Lib.hid qs
      clear hr2 qs
      go_enter Try.func55, Try.ntmps55
      go_upto_region 10 with fail
      have hd := h.no ((Keeps.refl NoS w).drew)
      clear c12 hl
      refine wp_region_held_drew (S := (fun w' => (w'.cell? ⟨X, 0, none⟩ = some (.int .i64 3) ∧ w'.cell? ⟨X, 1, none⟩ = some (.int .i64 1) ∧ w'.cell? ⟨X, 2, none⟩ = some (.int .i64 3) ∧ w'.cell? ⟨X, 3, none⟩ = some (.int .i64 0) ∧ w'.cell? ⟨X, 4, none⟩ = some (.int .i64 4)) ∧ w'.cell? ⟨X, 19, none⟩ = some (.int .i64 t.stamp))) (by kernel_rfl) (⟨hd.tx.mp, hd.tx.c 19 rfl⟩) (fun hHeld => ?_)
      refine wpAnyH_take (i := 0) (v := ?_) (by simp only [List.getElem?_toArray, List.getElem?_cons_succ, List.getElem?_cons_zero]; rfl) (by kernel_rfl) (by kernel_rfl) (by kernel_rfl) (by exact fun _ _ _ h => h) (Or.inl ⟨by rfl, ?_⟩) hHeld ?_
      rotate_left
      · intro w hSw; (try dsimp only at hSw); go_simp; (try with_reducible rfl)
      try simp only [Act.put, List.setIfInBounds_toArray, List.set_cons_zero, List.set_cons_succ]
      refine wpAnyH_take (i := 1) (v := ?_) (by simp only [List.getElem?_toArray, List.getElem?_cons_succ, List.getElem?_cons_zero]; rfl) (by kernel_rfl) (by kernel_rfl) (by kernel_rfl) (by exact fun _ _ _ h => h) (Or.inl ⟨by rfl, ?_⟩) hHeld ?_
      rotate_left
      · intro w hSw; (try dsimp only at hSw); go_simp; (try with_reducible rfl)
      try simp only [Act.put, List.setIfInBounds_toArray, List.set_cons_zero, List.set_cons_succ]
      refine wpAnyH_take (i := 2) (v := ?_) (by simp only [List.getElem?_toArray, List.getElem?_cons_succ, List.getElem?_cons_zero]; rfl) (by kernel_rfl) (by kernel_rfl) (by kernel_rfl) (by exact fun _ _ _ h => h) (Or.inl ⟨by rfl, ?_⟩) hHeld ?_
      rotate_left
      · intro w hSw; (try dsimp only at hSw); go_simp; (try with_reducible rfl)
      try simp only [Act.put, List.setIfInBounds_toArray, List.set_cons_zero, List.set_cons_succ]
      refine wpAnyH_take (i := 3) (v := ?_) (by simp only [List.getElem?_toArray, List.getElem?_cons_succ, List.getElem?_cons_zero]; rfl) (by kernel_rfl) (by kernel_rfl) (by kernel_rfl) (by exact fun _ _ _ h => h) (Or.inl ⟨by rfl, ?_⟩) hHeld ?_
      rotate_left
      · intro w hSw; (try dsimp only at hSw); go_simp; (try with_reducible rfl)
      try simp only [Act.put, List.setIfInBounds_toArray, List.set_cons_zero, List.set_cons_succ]
      refine wpAnyH_take (i := 4) (v := ?_) (by simp only [List.getElem?_toArray, List.getElem?_cons_succ, List.getElem?_cons_zero]; rfl) (by kernel_rfl) (by kernel_rfl) (by kernel_rfl) (by exact fun _ _ _ h => h) (Or.inl ⟨by rfl, ?_⟩) hHeld ?_
      rotate_left
      · intro w hSw; (try dsimp only at hSw); go_simp; (try with_reducible rfl)
      try simp only [Act.put, List.setIfInBounds_toArray, List.set_cons_zero, List.set_cons_succ]
      refine wpAnyH_take (i := 6) (v := ?_) (by simp only [List.getElem?_toArray, List.getElem?_cons_succ, List.getElem?_cons_zero]; rfl) (by kernel_rfl) (by kernel_rfl) (by kernel_rfl) (by exact fun _ _ _ h => h) (Or.inl ⟨by rfl, ?_⟩) hHeld ?_
      rotate_left
      · intro w hSw; (try dsimp only at hSw); go_simp; (try with_reducible rfl)
      try simp only [Act.put, List.setIfInBounds_toArray, List.set_cons_zero, List.set_cons_succ]
      refine wpAnyH_take (i := 7) (v := ?_) (by simp only [List.getElem?_toArray, List.getElem?_cons_succ, List.getElem?_cons_zero]; rfl) (by kernel_rfl) (by kernel_rfl) (by kernel_rfl) (by exact fun _ _ _ h => h) (Or.inl ⟨by rfl, ?_⟩) hHeld ?_
      rotate_left
      · intro w hSw; (try dsimp only at hSw); go_simp; (try with_reducible rfl)
      try simp only [Act.put, List.setIfInBounds_toArray, List.set_cons_zero, List.set_cons_succ]
      refine wpAnyH_take (i := 8) (v := ?_) (by simp only [List.getElem?_toArray, List.getElem?_cons_succ, List.getElem?_cons_zero]; rfl) (by kernel_rfl) (by kernel_rfl) (by kernel_rfl) (by exact fun _ _ _ h => h) (Or.inl ⟨by rfl, ?_⟩) hHeld ?_
      rotate_left
      · intro w hSw; (try dsimp only at hSw); go_simp; (try with_reducible rfl)
      try simp only [Act.put, List.setIfInBounds_toArray, List.set_cons_zero, List.set_cons_succ]
      refine wpAnyH_take (i := 9) (v := ?_) (by simp only [List.getElem?_toArray, List.getElem?_cons_succ, List.getElem?_cons_zero]; rfl) (by kernel_rfl) (by kernel_rfl) (by kernel_rfl) (by exact fun _ _ _ h => h) (Or.inl ⟨by rfl, ?_⟩) hHeld ?_
      rotate_left
      · intro w hSw; (try dsimp only at hSw); go_simp; (try with_reducible rfl)
      try simp only [Act.put, List.setIfInBounds_toArray, List.set_cons_zero, List.set_cons_succ]
      refine wpAnyH_take (i := 10) (v := ?_) (by simp only [List.getElem?_toArray, List.getElem?_cons_succ, List.getElem?_cons_zero]; rfl) (by kernel_rfl) (by kernel_rfl) (by kernel_rfl) (by exact fun _ _ _ h => h) (Or.inl ⟨by rfl, ?_⟩) hHeld ?_
      rotate_left
      · intro w hSw; (try dsimp only at hSw); go_simp; (try with_reducible rfl)
      try simp only [Act.put, List.setIfInBounds_toArray, List.set_cons_zero, List.set_cons_succ]
      refine wpAnyH_take (i := 11) (v := ?_) (by simp only [List.getElem?_toArray, List.getElem?_cons_succ, List.getElem?_cons_zero]; rfl) (by kernel_rfl) (by kernel_rfl) (by kernel_rfl) (by exact fun _ _ _ h => h) (Or.inl ⟨by rfl, ?_⟩) hHeld ?_
      rotate_left
      · intro w hSw; (try dsimp only at hSw); go_simp; (try with_reducible rfl)
      try simp only [Act.put, List.setIfInBounds_toArray, List.set_cons_zero, List.set_cons_succ]
      refine wpAnyH_take (i := 12) (v := ?_) (by simp only [List.getElem?_toArray, List.getElem?_cons_succ, List.getElem?_cons_zero]; rfl) (by kernel_rfl) (by kernel_rfl) (by kernel_rfl) (by exact fun _ _ _ h => h) (Or.inl ⟨by rfl, ?_⟩) hHeld ?_
      rotate_left
      · intro w hSw; (try dsimp only at hSw); go_simp; (try with_reducible rfl)
      try simp only [Act.put, List.setIfInBounds_toArray, List.set_cons_zero, List.set_cons_succ]
      refine wpAnyH_take (i := 13) (v := ?_) (by simp only [List.getElem?_toArray, List.getElem?_cons_succ, List.getElem?_cons_zero]; rfl) (by kernel_rfl) (by kernel_rfl) (by kernel_rfl) (by exact fun _ _ _ h => h) (Or.inl ⟨by rfl, ?_⟩) hHeld ?_
      rotate_left
      · intro w hSw; (try dsimp only at hSw); go_simp; (try with_reducible rfl)
      try simp only [Act.put, List.setIfInBounds_toArray, List.set_cons_zero, List.set_cons_succ]
      refine wpAnyH_take (i := 14) (v := ?_) (by simp only [List.getElem?_toArray, List.getElem?_cons_succ, List.getElem?_cons_zero]; rfl) (by kernel_rfl) (by kernel_rfl) (by kernel_rfl) (by exact fun _ _ _ h => h) (Or.inl ⟨by rfl, ?_⟩) hHeld ?_
      rotate_left
      · intro w hSw; (try dsimp only at hSw); go_simp; (try with_reducible rfl)
      try simp only [Act.put, List.setIfInBounds_toArray, List.set_cons_zero, List.set_cons_succ]
      refine wpAnyH_ready (rs := [5]) (by kernel_rfl) (by simp) ?_
      refine AllReadyH.cons (by simp only [List.getElem?_toArray, List.getElem?_cons_succ, List.getElem?_cons_zero]; rfl) (fun kC hkC => ?_) AllReadyH.nil
      go_simp
      refine (seq_lit 3 1 3 0 4 1 seq1 _).mono ?_; rintro e w2 ⟨rfl, hk2⟩; have h2 := hd.no hk2
      (try go_wp2_with fail)
      refine hkC.out _ _ (⟨h2.tx.mp, h2.tx.c 19 rfl⟩) (fun hHeld => ?_)
      clear hkC kC
      try simp only [Act.put, List.setIfInBounds_toArray, List.set_cons_zero, List.set_cons_succ]
      refine wpAnyH_ready (rs := [15]) (by kernel_rfl) (by simp) ?_
      refine AllReadyH.cons (by simp only [List.getElem?_toArray, List.getElem?_cons_succ, List.getElem?_cons_zero]; rfl) (fun kC hkC => ?_) AllReadyH.nil
      go_simp
      (try rw [wrap_w]); refine (swap_tot a v M 1 t.stamp (wrap64 (t.stamp + 1)) _ h2.mm).mono ?_; rw [HSO.out]; rintro e w3 ⟨rfl, hm, hk3⟩; have h3 := h2.mem hm hk3
      (try go_wp2_with fail)
      refine hkC.out _ _ (⟨h3.tx.mp, h3.tx.c 19 rfl⟩) (fun hHeld => ?_)
      clear hkC kC
      try simp only [Act.put, List.setIfInBounds_toArray, List.set_cons_zero, List.set_cons_succ]
      refine wpAnyH_take (i := 16) (v := ?_) (by simp only [List.getElem?_toArray, List.getElem?_cons_succ, List.getElem?_cons_zero]; rfl) (by kernel_rfl) (by kernel_rfl) (by kernel_rfl) (by exact fun _ _ _ h => h) (Or.inl ⟨by rfl, ?_⟩) hHeld ?_
      rotate_left
      · intro w hSw; (try dsimp only at hSw); go_simp; (try with_reducible rfl)
      try simp only [Act.put, List.setIfInBounds_toArray, List.set_cons_zero, List.set_cons_succ]
      refine wpAnyH_take (i := 17) (v := ?_) (by simp only [List.getElem?_toArray, List.getElem?_cons_succ, List.getElem?_cons_zero]; rfl) (by kernel_rfl) (by kernel_rfl) (by kernel_rfl) (by exact fun _ _ _ h => h) (Or.inl ⟨by rfl, ?_⟩) hHeld ?_
      rotate_left
      · intro w hSw; (try dsimp only at hSw); go_simp; (try with_reducible rfl)
      try simp only [Act.put, List.setIfInBounds_toArray, List.set_cons_zero, List.set_cons_succ]
      refine wpAnyH_take (i := 18) (v := ?_) (by simp only [List.getElem?_toArray, List.getElem?_cons_succ, List.getElem?_cons_zero]; rfl) (by kernel_rfl) (by kernel_rfl) (by kernel_rfl) (by exact fun _ _ _ h => h) (Or.inl ⟨by rfl, ?_⟩) hHeld ?_
      rotate_left
      · intro w hSw; (try dsimp only at hSw); go_simp; (try with_reducible rfl)
      try simp only [Act.put, List.setIfInBounds_toArray, List.set_cons_zero, List.set_cons_succ]
      refine wpAnyH_take (i := 19) (v := ?_) (by simp only [List.getElem?_toArray, List.getElem?_cons_succ, List.getElem?_cons_zero]; rfl) (by kernel_rfl) (by kernel_rfl) (by kernel_rfl) (by exact fun _ _ _ h => h) (Or.inl ⟨by rfl, ?_⟩) hHeld ?_
      rotate_left
      · intro w hSw; (try dsimp only at hSw); go_simp; (try with_reducible rfl)
      try simp only [Act.put, List.setIfInBounds_toArray, List.set_cons_zero, List.set_cons_succ]
      refine wpAnyH_take (i := 20) (v := ?_) (by simp only [List.getElem?_toArray, List.getElem?_cons_succ, List.getElem?_cons_zero]; rfl) (by kernel_rfl) (by kernel_rfl) (by kernel_rfl) (by exact fun _ _ _ h => h) (Or.inl ⟨by rfl, ?_⟩) hHeld ?_
      rotate_left
      · intro w hSw; (try dsimp only at hSw); go_simp; (try with_reducible rfl)
      try simp only [Act.put, List.setIfInBounds_toArray, List.set_cons_zero, List.set_cons_succ]
      refine wpAnyH_take (i := 21) (v := ?_) (by simp only [List.getElem?_toArray, List.getElem?_cons_succ, List.getElem?_cons_zero]; rfl) (by kernel_rfl) (by kernel_rfl) (by kernel_rfl) (by exact fun _ _ _ h => h) (Or.inl ⟨by rfl, ?_⟩) hHeld ?_
      rotate_left
      · intro w hSw; (try dsimp only at hSw); go_simp; (try with_reducible rfl)
      try simp only [Act.put, List.setIfInBounds_toArray, List.set_cons_zero, List.set_cons_succ]
      refine wpAnyH_take (i := 22) (v := ?_) (by simp only [List.getElem?_toArray, List.getElem?_cons_succ, List.getElem?_cons_zero]; rfl) (by kernel_rfl) (by kernel_rfl) (by kernel_rfl) (by exact fun _ _ _ h => h) (Or.inl ⟨by rfl, ?_⟩) hHeld ?_
      rotate_left
      · intro w hSw; (try dsimp only at hSw); go_simp; (try with_reducible rfl)
      try simp only [Act.put, List.setIfInBounds_toArray, List.set_cons_zero, List.set_cons_succ]
      refine wpAnyH_done (by kernel_rfl) ?_ _
      have k3' : Keeps (kXm X a v) w w3 := (kx_m ((Keeps.refl (just X) w).drew)).trans (hk2.no.trans (km_m hk3))
      clear hm hk2 hk3 h2 hd hHeld
      have c19 := h3.tx.c 19 (u := .int .i64 t.stamp) rfl
      have f21 := h3.tx.f 21; have f20 := h3.tx.f 20; have f12 := h3.tx.f 12; have f13 := h3.tx.f 13
      have c21 := h3.tx.c 21 (u := .bool t.took) rfl; have c20 := h3.tx.c 20 (u := .int .i64 t.made) rfl
      have c12 := h3.tx.c 12 (u := .int .i64 t.part) rfl; have c13 := h3.tx.c 13 (u := .int .i64 t.i) rfl
      have hl := h3.tx.lt
      have h5 := (((h3.set 21 (.bool true) (t' := { t with took := true }) rfl rfl rfl rfl).set 20 (.int .i64 (wrap64 (t.stamp + 2))) (t' := { t with took := true, made := wrap64 (t.stamp + 2) }) rfl rfl rfl rfl).set 12 (.int .i64 2) (t' := { t with took := true, made := wrap64 (t.stamp + 2), part := 2 }) rfl rfl rfl rfl).set 13 (.int .i64 0) (t' := { t with took := true, made := wrap64 (t.stamp + 2), part := 2, i := 0 }) rfl rfl rfl rfl
      have k5 := k3'.trans (kx_m ((((keepsX w3 X 21 (.bool true)).trans (keepsX _ X 20 (.int .i64 (wrap64 (t.stamp + 2))))).trans (keepsX _ X 12 (.int .i64 2))).trans (keepsX _ X 13 (.int .i64 0))))
      go_upto_region 32 with fail
      generalize (((w3.setCell ⟨X, 21, none⟩ (.bool true)).setCell ⟨X, 20, none⟩ (.int .i64 (wrap64 (t.stamp + 2)))).setCell ⟨X, 12, none⟩ (.int .i64 2)).setCell ⟨X, 13, none⟩ (.int .i64 0) = w6 at *
      clear c19 f21 f20 f12 f13 c21 c20 c12 c13 hl h3 k3'
      go_wp2_with (go_at_call 77; refine (xsettle_any h5).mono ?_; rintro e w9 ⟨rfl, h9, k9⟩)
      go_ret
      rw [HRES.out]
      exact ⟨rfl, h.km (k5.trans (kx_m k9)) h9⟩
    | false =>
      have HRES := Lib.hid (show res = (M.swapI 1 t.stamp (wrap64 (t.stamp + 1)), ({ t with part := 8 }, 0)) by rw [hr2, qs]; rfl)
      have HSO := Lib.hid qs
      clear hr2 qs
      go_enter Try.func55, Try.ntmps55
      go_upto_region 10 with fail
      have hd := h.no ((Keeps.refl NoS w).drew)
      clear c12 hl
      refine wp_region_held_drew (S := (fun w' => (w'.cell? ⟨X, 0, none⟩ = some (.int .i64 3) ∧ w'.cell? ⟨X, 1, none⟩ = some (.int .i64 1) ∧ w'.cell? ⟨X, 2, none⟩ = some (.int .i64 3) ∧ w'.cell? ⟨X, 3, none⟩ = some (.int .i64 0) ∧ w'.cell? ⟨X, 4, none⟩ = some (.int .i64 4)) ∧ w'.cell? ⟨X, 19, none⟩ = some (.int .i64 t.stamp))) (by kernel_rfl) (⟨hd.tx.mp, hd.tx.c 19 rfl⟩) (fun hHeld => ?_)
      refine wpAnyH_take (i := 0) (v := ?_) (by simp only [List.getElem?_toArray, List.getElem?_cons_succ, List.getElem?_cons_zero]; rfl) (by kernel_rfl) (by kernel_rfl) (by kernel_rfl) (by exact fun _ _ _ h => h) (Or.inl ⟨by rfl, ?_⟩) hHeld ?_
      rotate_left
      · intro w hSw; (try dsimp only at hSw); go_simp; (try with_reducible rfl)
      try simp only [Act.put, List.setIfInBounds_toArray, List.set_cons_zero, List.set_cons_succ]
      refine wpAnyH_take (i := 1) (v := ?_) (by simp only [List.getElem?_toArray, List.getElem?_cons_succ, List.getElem?_cons_zero]; rfl) (by kernel_rfl) (by kernel_rfl) (by kernel_rfl) (by exact fun _ _ _ h => h) (Or.inl ⟨by rfl, ?_⟩) hHeld ?_
      rotate_left
      · intro w hSw; (try dsimp only at hSw); go_simp; (try with_reducible rfl)
      try simp only [Act.put, List.setIfInBounds_toArray, List.set_cons_zero, List.set_cons_succ]
      refine wpAnyH_take (i := 2) (v := ?_) (by simp only [List.getElem?_toArray, List.getElem?_cons_succ, List.getElem?_cons_zero]; rfl) (by kernel_rfl) (by kernel_rfl) (by kernel_rfl) (by exact fun _ _ _ h => h) (Or.inl ⟨by rfl, ?_⟩) hHeld ?_
      rotate_left
      · intro w hSw; (try dsimp only at hSw); go_simp; (try with_reducible rfl)
      try simp only [Act.put, List.setIfInBounds_toArray, List.set_cons_zero, List.set_cons_succ]
      refine wpAnyH_take (i := 3) (v := ?_) (by simp only [List.getElem?_toArray, List.getElem?_cons_succ, List.getElem?_cons_zero]; rfl) (by kernel_rfl) (by kernel_rfl) (by kernel_rfl) (by exact fun _ _ _ h => h) (Or.inl ⟨by rfl, ?_⟩) hHeld ?_
      rotate_left
      · intro w hSw; (try dsimp only at hSw); go_simp; (try with_reducible rfl)
      try simp only [Act.put, List.setIfInBounds_toArray, List.set_cons_zero, List.set_cons_succ]
      refine wpAnyH_take (i := 4) (v := ?_) (by simp only [List.getElem?_toArray, List.getElem?_cons_succ, List.getElem?_cons_zero]; rfl) (by kernel_rfl) (by kernel_rfl) (by kernel_rfl) (by exact fun _ _ _ h => h) (Or.inl ⟨by rfl, ?_⟩) hHeld ?_
      rotate_left
      · intro w hSw; (try dsimp only at hSw); go_simp; (try with_reducible rfl)
      try simp only [Act.put, List.setIfInBounds_toArray, List.set_cons_zero, List.set_cons_succ]
      refine wpAnyH_take (i := 6) (v := ?_) (by simp only [List.getElem?_toArray, List.getElem?_cons_succ, List.getElem?_cons_zero]; rfl) (by kernel_rfl) (by kernel_rfl) (by kernel_rfl) (by exact fun _ _ _ h => h) (Or.inl ⟨by rfl, ?_⟩) hHeld ?_
      rotate_left
      · intro w hSw; (try dsimp only at hSw); go_simp; (try with_reducible rfl)
      try simp only [Act.put, List.setIfInBounds_toArray, List.set_cons_zero, List.set_cons_succ]
      refine wpAnyH_take (i := 7) (v := ?_) (by simp only [List.getElem?_toArray, List.getElem?_cons_succ, List.getElem?_cons_zero]; rfl) (by kernel_rfl) (by kernel_rfl) (by kernel_rfl) (by exact fun _ _ _ h => h) (Or.inl ⟨by rfl, ?_⟩) hHeld ?_
      rotate_left
      · intro w hSw; (try dsimp only at hSw); go_simp; (try with_reducible rfl)
      try simp only [Act.put, List.setIfInBounds_toArray, List.set_cons_zero, List.set_cons_succ]
      refine wpAnyH_take (i := 8) (v := ?_) (by simp only [List.getElem?_toArray, List.getElem?_cons_succ, List.getElem?_cons_zero]; rfl) (by kernel_rfl) (by kernel_rfl) (by kernel_rfl) (by exact fun _ _ _ h => h) (Or.inl ⟨by rfl, ?_⟩) hHeld ?_
      rotate_left
      · intro w hSw; (try dsimp only at hSw); go_simp; (try with_reducible rfl)
      try simp only [Act.put, List.setIfInBounds_toArray, List.set_cons_zero, List.set_cons_succ]
      refine wpAnyH_take (i := 9) (v := ?_) (by simp only [List.getElem?_toArray, List.getElem?_cons_succ, List.getElem?_cons_zero]; rfl) (by kernel_rfl) (by kernel_rfl) (by kernel_rfl) (by exact fun _ _ _ h => h) (Or.inl ⟨by rfl, ?_⟩) hHeld ?_
      rotate_left
      · intro w hSw; (try dsimp only at hSw); go_simp; (try with_reducible rfl)
      try simp only [Act.put, List.setIfInBounds_toArray, List.set_cons_zero, List.set_cons_succ]
      refine wpAnyH_take (i := 10) (v := ?_) (by simp only [List.getElem?_toArray, List.getElem?_cons_succ, List.getElem?_cons_zero]; rfl) (by kernel_rfl) (by kernel_rfl) (by kernel_rfl) (by exact fun _ _ _ h => h) (Or.inl ⟨by rfl, ?_⟩) hHeld ?_
      rotate_left
      · intro w hSw; (try dsimp only at hSw); go_simp; (try with_reducible rfl)
      try simp only [Act.put, List.setIfInBounds_toArray, List.set_cons_zero, List.set_cons_succ]
      refine wpAnyH_take (i := 11) (v := ?_) (by simp only [List.getElem?_toArray, List.getElem?_cons_succ, List.getElem?_cons_zero]; rfl) (by kernel_rfl) (by kernel_rfl) (by kernel_rfl) (by exact fun _ _ _ h => h) (Or.inl ⟨by rfl, ?_⟩) hHeld ?_
      rotate_left
      · intro w hSw; (try dsimp only at hSw); go_simp; (try with_reducible rfl)
      try simp only [Act.put, List.setIfInBounds_toArray, List.set_cons_zero, List.set_cons_succ]
      refine wpAnyH_take (i := 12) (v := ?_) (by simp only [List.getElem?_toArray, List.getElem?_cons_succ, List.getElem?_cons_zero]; rfl) (by kernel_rfl) (by kernel_rfl) (by kernel_rfl) (by exact fun _ _ _ h => h) (Or.inl ⟨by rfl, ?_⟩) hHeld ?_
      rotate_left
      · intro w hSw; (try dsimp only at hSw); go_simp; (try with_reducible rfl)
      try simp only [Act.put, List.setIfInBounds_toArray, List.set_cons_zero, List.set_cons_succ]
      refine wpAnyH_take (i := 13) (v := ?_) (by simp only [List.getElem?_toArray, List.getElem?_cons_succ, List.getElem?_cons_zero]; rfl) (by kernel_rfl) (by kernel_rfl) (by kernel_rfl) (by exact fun _ _ _ h => h) (Or.inl ⟨by rfl, ?_⟩) hHeld ?_
      rotate_left
      · intro w hSw; (try dsimp only at hSw); go_simp; (try with_reducible rfl)
      try simp only [Act.put, List.setIfInBounds_toArray, List.set_cons_zero, List.set_cons_succ]
      refine wpAnyH_take (i := 14) (v := ?_) (by simp only [List.getElem?_toArray, List.getElem?_cons_succ, List.getElem?_cons_zero]; rfl) (by kernel_rfl) (by kernel_rfl) (by kernel_rfl) (by exact fun _ _ _ h => h) (Or.inl ⟨by rfl, ?_⟩) hHeld ?_
      rotate_left
      · intro w hSw; (try dsimp only at hSw); go_simp; (try with_reducible rfl)
      try simp only [Act.put, List.setIfInBounds_toArray, List.set_cons_zero, List.set_cons_succ]
      refine wpAnyH_ready (rs := [5]) (by kernel_rfl) (by simp) ?_
      refine AllReadyH.cons (by simp only [List.getElem?_toArray, List.getElem?_cons_succ, List.getElem?_cons_zero]; rfl) (fun kC hkC => ?_) AllReadyH.nil
      go_simp
      refine (seq_lit 3 1 3 0 4 1 seq1 _).mono ?_; rintro e w2 ⟨rfl, hk2⟩; have h2 := hd.no hk2
      (try go_wp2_with fail)
      refine hkC.out _ _ (⟨h2.tx.mp, h2.tx.c 19 rfl⟩) (fun hHeld => ?_)
      clear hkC kC
      try simp only [Act.put, List.setIfInBounds_toArray, List.set_cons_zero, List.set_cons_succ]
      refine wpAnyH_ready (rs := [15]) (by kernel_rfl) (by simp) ?_
      refine AllReadyH.cons (by simp only [List.getElem?_toArray, List.getElem?_cons_succ, List.getElem?_cons_zero]; rfl) (fun kC hkC => ?_) AllReadyH.nil
      go_simp
      (try rw [wrap_w]); refine (swap_tot a v M 1 t.stamp (wrap64 (t.stamp + 1)) _ h2.mm).mono ?_; rw [HSO.out]; rintro e w3 ⟨rfl, hm, hk3⟩; have h3 := h2.mem hm hk3
      (try go_wp2_with fail)
      refine hkC.out _ _ (⟨h3.tx.mp, h3.tx.c 19 rfl⟩) (fun hHeld => ?_)
      clear hkC kC
      try simp only [Act.put, List.setIfInBounds_toArray, List.set_cons_zero, List.set_cons_succ]
      refine wpAnyH_take (i := 16) (v := ?_) (by simp only [List.getElem?_toArray, List.getElem?_cons_succ, List.getElem?_cons_zero]; rfl) (by kernel_rfl) (by kernel_rfl) (by kernel_rfl) (by exact fun _ _ _ h => h) (Or.inl ⟨by rfl, ?_⟩) hHeld ?_
      rotate_left
      · intro w hSw; (try dsimp only at hSw); go_simp; (try with_reducible rfl)
      try simp only [Act.put, List.setIfInBounds_toArray, List.set_cons_zero, List.set_cons_succ]
      refine wpAnyH_take (i := 17) (v := ?_) (by simp only [List.getElem?_toArray, List.getElem?_cons_succ, List.getElem?_cons_zero]; rfl) (by kernel_rfl) (by kernel_rfl) (by kernel_rfl) (by exact fun _ _ _ h => h) (Or.inl ⟨by rfl, ?_⟩) hHeld ?_
      rotate_left
      · intro w hSw; (try dsimp only at hSw); go_simp; (try with_reducible rfl)
      try simp only [Act.put, List.setIfInBounds_toArray, List.set_cons_zero, List.set_cons_succ]
      refine wpAnyH_take (i := 18) (v := ?_) (by simp only [List.getElem?_toArray, List.getElem?_cons_succ, List.getElem?_cons_zero]; rfl) (by kernel_rfl) (by kernel_rfl) (by kernel_rfl) (by exact fun _ _ _ h => h) (Or.inl ⟨by rfl, ?_⟩) hHeld ?_
      rotate_left
      · intro w hSw; (try dsimp only at hSw); go_simp; (try with_reducible rfl)
      try simp only [Act.put, List.setIfInBounds_toArray, List.set_cons_zero, List.set_cons_succ]
      refine wpAnyH_take (i := 19) (v := ?_) (by simp only [List.getElem?_toArray, List.getElem?_cons_succ, List.getElem?_cons_zero]; rfl) (by kernel_rfl) (by kernel_rfl) (by kernel_rfl) (by exact fun _ _ _ h => h) (Or.inl ⟨by rfl, ?_⟩) hHeld ?_
      rotate_left
      · intro w hSw; (try dsimp only at hSw); go_simp; (try with_reducible rfl)
      try simp only [Act.put, List.setIfInBounds_toArray, List.set_cons_zero, List.set_cons_succ]
      refine wpAnyH_take (i := 20) (v := ?_) (by simp only [List.getElem?_toArray, List.getElem?_cons_succ, List.getElem?_cons_zero]; rfl) (by kernel_rfl) (by kernel_rfl) (by kernel_rfl) (by exact fun _ _ _ h => h) (Or.inl ⟨by rfl, ?_⟩) hHeld ?_
      rotate_left
      · intro w hSw; (try dsimp only at hSw); go_simp; (try with_reducible rfl)
      try simp only [Act.put, List.setIfInBounds_toArray, List.set_cons_zero, List.set_cons_succ]
      refine wpAnyH_take (i := 21) (v := ?_) (by simp only [List.getElem?_toArray, List.getElem?_cons_succ, List.getElem?_cons_zero]; rfl) (by kernel_rfl) (by kernel_rfl) (by kernel_rfl) (by exact fun _ _ _ h => h) (Or.inl ⟨by rfl, ?_⟩) hHeld ?_
      rotate_left
      · intro w hSw; (try dsimp only at hSw); go_simp; (try with_reducible rfl)
      try simp only [Act.put, List.setIfInBounds_toArray, List.set_cons_zero, List.set_cons_succ]
      refine wpAnyH_take (i := 22) (v := ?_) (by simp only [List.getElem?_toArray, List.getElem?_cons_succ, List.getElem?_cons_zero]; rfl) (by kernel_rfl) (by kernel_rfl) (by kernel_rfl) (by exact fun _ _ _ h => h) (Or.inl ⟨by rfl, ?_⟩) hHeld ?_
      rotate_left
      · intro w hSw; (try dsimp only at hSw); go_simp; (try with_reducible rfl)
      try simp only [Act.put, List.setIfInBounds_toArray, List.set_cons_zero, List.set_cons_succ]
      refine wpAnyH_done (by kernel_rfl) ?_ _
      have k3' : Keeps (kXm X a v) w w3 := (kx_m ((Keeps.refl (just X) w).drew)).trans (hk2.no.trans (km_m hk3))
      clear hm hk2 hk3 h2 hd hHeld
      have f12 := h3.tx.f 12
      have c12 := h3.tx.c 12 (u := .int .i64 t.part) rfl
      have hl := h3.tx.lt
      go_wp2_with fail
      go_ret
      rw [HRES.out]
      exact ⟨rfl, h.km (k3'.trans (kx_m (keepsX w3 X 12 (.int .i64 8)))) (h3.set 12 (.int .i64 8) rfl rfl rfl rfl)⟩
  by_cases p2 : t.part = 2
  · obtain ⟨hi0, hi1⟩ : 0 ≤ t.i ∧ t.i < (t.V.length : Int) := by
      rcases hp with e | e | ⟨_, e⟩ | ⟨e, _⟩ | e | e
      · exact absurd e p3
      · exact absurd e p4
      · exact e
      · omega
      · omega
      · omega
    obtain ⟨k, hk⟩ := Int.eq_ofNat_of_zero_le hi0
    have c12 := h.tx.c 12 (u := .int .i64 2) (by rw [← p2]; rfl)
    have hkn : t.i.toNat = k := by rw [hk]; rfl
    obtain ⟨M2, t2, b2, hw⟩ : ∃ M2 t2 b2, watchesT M t k = (M2, (t2, b2)) := ⟨_, _, _, rfl⟩
    have hcw := xwatches_any h k hk (by omega) hb
    rw [hw] at hcw
    dsimp only at hcw
    have HCW := Lib.hid hcw
    have hr2 : res = (M2, if b2 then (settleT t2, 0) else abortT t2 3) := by rw [← hres]; unfold commitT; rw [if_neg p3, if_neg p4, if_pos p2, hkn, hw]
    clear hres hkn hw hcw hk hi0 hi1 p2 p3 p4 hp
    cases b2 with
    | true =>
      have HRES := Lib.hid (show res = (M2, (settleT t2, 0)) from hr2)
      clear hr2
      go_enter Try.func55, Try.ntmps55
      go_wp2_with (first
        | (go_at_call 70; refine HCW.out.mono ?_; rintro e ws ⟨rfl, hn, kp⟩)
        | (go_at_call 77; refine (xsettle_any hn).mono ?_; rintro e w9 ⟨rfl, h9, k9⟩))
      go_ret
      rw [HRES.out]
      exact ⟨rfl, h.km (kp.trans (kx_m k9)) h9⟩
    | false =>
      have HRES := Lib.hid (show res = (M2, abortT t2 3) from hr2)
      clear hr2
      go_enter Try.func55, Try.ntmps55
      go_wp2_with (first
        | (go_at_call 70; refine HCW.out.mono ?_; rintro e ws ⟨rfl, hn, kp⟩)
        | (go_at_call 47; refine (xabort_any hn 3).mono ?_; rintro e w3 ⟨rfl, h3, k3⟩))
      go_ret
      rw [HRES.out]
      exact ⟨rfl, h.km (kp.trans (kx_m k3)) h3⟩
  by_cases p5 : t.part = 5
  · obtain ⟨hi0, hi1⟩ : 0 ≤ t.i ∧ t.i < (t.W.length : Int) := by
      rcases hp with e | e | ⟨e, _⟩ | ⟨_, e⟩ | e | e
      · exact absurd e p3
      · exact absurd e p4
      · exact absurd e p2
      · exact e
      · omega
      · omega
    obtain ⟨k, hk⟩ := Int.eq_ofNat_of_zero_le hi0
    have hkn : t.i.toNat = k := by rw [hk]; rfl
    have hkl : k < t.W.length := by omega
    have c12 := h.tx.c 12 (u := .int .i64 5) (by rw [← p5]; rfl)
    obtain ⟨o, ho⟩ : ∃ z, t.W.getD k (0, 0) = z := ⟨_, rfl⟩
    obtain ⟨oa, ov⟩ := o
    have HRES := Lib.hid (show res = (M.storeI oa ov, (settleT { t with i := (k : Int) + 1 }, 0)) by rw [← hres]; unfold commitT; rw [if_neg p3, if_neg p4, if_neg p2, if_pos p5, hkn, ho, hk])
    have HO := Lib.hid ho
    have HK := Lib.hid hk
    have hk0 : (0 : Int) ≤ (k : Int) := by omega
    have hk1 : (k : Int) < (t.W.length : Int) := by omega
    have HLS := Lib.hid (show ∀ W, NX W a v M X ra wa rv wv vv t → Calls Try.prog 46 #[.pointer (some ⟨wa, 0, none⟩)] W fun e w' => ∃ gs cp, e = .returned (.slice (some ⟨gs, 0, none⟩) t.W.length cp) ∧ W.heap.size ≤ gs ∧ gs < w'.heap.size ∧ (w'.cell? ⟨gs, k * 2, none⟩ = some (.int .i64 oa) ∧ w'.cell? ⟨gs, k * 2 + 1, none⟩ = some (.int .i64 ov)) ∧ Keeps NoS W w' from fun W hW => by
      obtain ⟨asked, hs⟩ := hW.tx.ws
      refine (wlist_any wa wv 32 asked t.W W hs).mono ?_
      rintro e w' ⟨u, rfl, hu, hlo, hkp⟩
      rcases owns_words hu with ⟨_, hv⟩ | ⟨g, cap, hvv, hgl, hgf, hcs⟩
      · rw [hv] at hkl; exact absurd hkl (by simp)
      · have h2 := hcs k hkl
        rw [ho] at h2
        exact ⟨g, cap, by rw [hvv], hlo g (by rw [hvv]; rfl), hgl, h2, hkp⟩)
    have HKW := Lib.hid (show IntKind.i64.wrap ((k : Int) + 1) = (k : Int) + 1 from IntWalk.i64_in _ (by obtain ⟨_, z⟩ := h.tx.ws; have := z.small; omega))
    have HXF := Lib.hid (show ∀ g, txO X ra wa rv wv vv g ∨ own2m a v g → g < w.heap.size from fun g e => by
      rcases e with (e | e | e | e | e | e) | e
      · rw [e]; exact h.tx.lt
      · rw [e]; exact h.tx.ralt
      · rw [e]; exact h.tx.walt
      · exact h.tx.rvlt e
      · exact h.tx.wvlt e
      · exact h.tx.vvlt e
      · exact h.lt e)
    clear hres p2 p3 p4 p5 hp hi0 hi1 hkn ho hk
    go_enter Try.func55, Try.ntmps55
    go_upto_region 20 with fail
    have hN := h.no ((Keeps.refl NoS w).drew)
    have k1 := (Keeps.refl NoS w).drew
    clear c12 hl
    refine wp_region_held_drew (S := (fun w' => w'.cell? ⟨X, 8, none⟩ = some (.pointer (some ⟨wa, 0, none⟩)) ∧ w'.cell? ⟨X, 13, none⟩ = some (.int .i64 (k : Int)))) (by kernel_rfl) (⟨hN.tx.c 8 rfl, hN.tx.c 13 (by rw [← HK.out]; rfl)⟩) (fun hHeld => ?_)
    generalize w.drew = wq at *
    apply wpAnyH_dag3 (R := (fun (gs : Nat) (cp : Nat) (g1 : Nat) (wq : World) => (NX wq a v M X ra wa rv wv vv t) ∧ (Keeps NoS w wq) ∧ (wq.cell? ⟨gs, k * 2, none⟩ = some (.int .i64 oa) ∧ wq.cell? ⟨gs, k * 2 + 1, none⟩ = some (.int .i64 ov)) ∧ (w.heap.size ≤ gs ∧ gs < wq.heap.size) ∧ (wq.heap[g1]? = some (.cells #[.int .i64 oa, .int .i64 ov] 54 (0, 0))) ∧ (w.heap.size ≤ g1) ∧ (gs ≠ g1)))
    · intro hD0
      apply wpAnyH_dag3 (R := (fun (gs : Nat) (cp : Nat) (g1 : Nat) (wq : World) => (NX wq a v M X ra wa rv wv vv t) ∧ (Keeps NoS w wq) ∧ (wq.cell? ⟨gs, k * 2, none⟩ = some (.int .i64 oa) ∧ wq.cell? ⟨gs, k * 2 + 1, none⟩ = some (.int .i64 ov)) ∧ (w.heap.size ≤ gs ∧ gs < wq.heap.size) ∧ (wq.heap[g1]? = some (.cells #[.int .i64 0, .int .i64 0] 54 (0, 0))) ∧ (w.heap.size ≤ g1) ∧ (gs ≠ g1)))
      · intro hD1
        apply wpAnyH_dag2 (R := (fun (gs : Nat) (cp : Nat) (wq : World) => (NX wq a v M X ra wa rv wv vv t) ∧ (Keeps NoS w wq) ∧ (wq.cell? ⟨gs, k * 2, none⟩ = some (.int .i64 oa) ∧ wq.cell? ⟨gs, k * 2 + 1, none⟩ = some (.int .i64 ov)) ∧ (w.heap.size ≤ gs ∧ gs < wq.heap.size)))
        · intro hD2
          apply wpAnyH_dag3 (R := (fun (gs : Nat) (cp : Nat) (g1 : Nat) (wq : World) => (NX wq a v M X ra wa rv wv vv t) ∧ (Keeps NoS w wq) ∧ (wq.cell? ⟨gs, k * 2, none⟩ = some (.int .i64 oa) ∧ wq.cell? ⟨gs, k * 2 + 1, none⟩ = some (.int .i64 ov)) ∧ (w.heap.size ≤ gs ∧ gs < wq.heap.size) ∧ (wq.heap[g1]? = some (.cells #[.int .i64 0, .int .i64 0] 54 (0, 0))) ∧ (w.heap.size ≤ g1) ∧ (gs ≠ g1)))
          · intro hD3
            apply wpAnyH_dag2 (R := (fun (gs : Nat) (cp : Nat) (wq : World) => (NX wq a v M X ra wa rv wv vv t) ∧ (Keeps NoS w wq) ∧ (wq.cell? ⟨gs, k * 2, none⟩ = some (.int .i64 oa) ∧ wq.cell? ⟨gs, k * 2 + 1, none⟩ = some (.int .i64 ov)) ∧ (w.heap.size ≤ gs ∧ gs < wq.heap.size)))
            · intro hD4
              apply wpAnyH_dag1 (R := (fun (g1 : Nat) (wq : World) => (NX wq a v M X ra wa rv wv vv t) ∧ (Keeps NoS w wq) ∧ (wq.heap[g1]? = some (.cells #[.int .i64 0, .int .i64 0] 54 (0, 0))) ∧ (w.heap.size ≤ g1)))
              · intro hD5
                refine wpAnyH_take (i := 0) (v := ?_) (by simp only [List.getElem?_toArray, List.getElem?_cons_succ, List.getElem?_cons_zero]; rfl) (by kernel_rfl) (by kernel_rfl) (by kernel_rfl) (by exact fun _ _ _ h => h) (Or.inl ⟨by rfl, ?_⟩) hHeld ?_
                rotate_left
                · intro w hSw; (try dsimp only at hSw); go_simp; (try with_reducible rfl)
                try simp only [Act.put, List.setIfInBounds_toArray, List.set_cons_zero, List.set_cons_succ]
                refine wpAnyH_take (i := 1) (v := ?_) (by simp only [List.getElem?_toArray, List.getElem?_cons_succ, List.getElem?_cons_zero]; rfl) (by kernel_rfl) (by kernel_rfl) (by kernel_rfl) (by exact fun _ _ _ h => h) (Or.inl ⟨by rfl, ?_⟩) hHeld ?_
                rotate_left
                · intro w hSw; (try dsimp only at hSw); go_simp; (try with_reducible rfl)
                try simp only [Act.put, List.setIfInBounds_toArray, List.set_cons_zero, List.set_cons_succ]
                refine wpAnyH_take (i := 2) (v := ?_) (by simp only [List.getElem?_toArray, List.getElem?_cons_succ, List.getElem?_cons_zero]; rfl) (by kernel_rfl) (by kernel_rfl) (by kernel_rfl) (by exact fun _ _ _ h => h) (Or.inl ⟨by rfl, ?_⟩) hHeld ?_
                rotate_left
                · intro w hSw; (try dsimp only at hSw); go_simp; (try with_reducible rfl)
                try simp only [Act.put, List.setIfInBounds_toArray, List.set_cons_zero, List.set_cons_succ]
                refine wpAnyH_take (i := 3) (v := ?_) (by simp only [List.getElem?_toArray, List.getElem?_cons_succ, List.getElem?_cons_zero]; rfl) (by kernel_rfl) (by kernel_rfl) (by kernel_rfl) (by exact fun _ _ _ h => h) (Or.inl ⟨by rfl, ?_⟩) hHeld ?_
                rotate_left
                · intro w hSw; (try dsimp only at hSw); go_simp; (try with_reducible rfl)
                try simp only [Act.put, List.setIfInBounds_toArray, List.set_cons_zero, List.set_cons_succ]
                refine wpAnyH_take (i := 5) (v := ?_) (by simp only [List.getElem?_toArray, List.getElem?_cons_succ, List.getElem?_cons_zero]; rfl) (by kernel_rfl) (by kernel_rfl) (by kernel_rfl) (by exact fun _ _ _ h => h) (Or.inl ⟨by rfl, ?_⟩) hHeld ?_
                rotate_left
                · intro w hSw; (try dsimp only at hSw); go_simp; (try with_reducible rfl)
                try simp only [Act.put, List.setIfInBounds_toArray, List.set_cons_zero, List.set_cons_succ]
                refine wpAnyH_take (i := 6) (v := ?_) (by simp only [List.getElem?_toArray, List.getElem?_cons_succ, List.getElem?_cons_zero]; rfl) (by kernel_rfl) (by kernel_rfl) (by kernel_rfl) (by exact fun _ _ _ h => h) (Or.inl ⟨by rfl, ?_⟩) hHeld ?_
                rotate_left
                · intro w hSw; (try dsimp only at hSw); go_simp; (try with_reducible rfl)
                try simp only [Act.put, List.setIfInBounds_toArray, List.set_cons_zero, List.set_cons_succ]
                refine wpAnyH_take (i := 7) (v := ?_) (by simp only [List.getElem?_toArray, List.getElem?_cons_succ, List.getElem?_cons_zero]; rfl) (by kernel_rfl) (by kernel_rfl) (by kernel_rfl) (by exact fun _ _ _ h => h) (Or.inl ⟨by rfl, ?_⟩) hHeld ?_
                rotate_left
                · intro w hSw; (try dsimp only at hSw); go_simp; (try with_reducible rfl)
                try simp only [Act.put, List.setIfInBounds_toArray, List.set_cons_zero, List.set_cons_succ]
                refine wpAnyH_take (i := 8) (v := ?_) (by simp only [List.getElem?_toArray, List.getElem?_cons_succ, List.getElem?_cons_zero]; rfl) (by kernel_rfl) (by kernel_rfl) (by kernel_rfl) (by exact fun _ _ _ h => h) (Or.inl ⟨by rfl, ?_⟩) hHeld ?_
                rotate_left
                · intro w hSw; (try dsimp only at hSw); go_simp; (try with_reducible rfl)
                try simp only [Act.put, List.setIfInBounds_toArray, List.set_cons_zero, List.set_cons_succ]
                refine wpAnyH_ready (rs := [4, 11]) (by kernel_rfl) (by simp) ?_
                refine AllReadyH.cons (by simp only [List.getElem?_toArray, List.getElem?_cons_succ, List.getElem?_cons_zero]; rfl) (fun kC hkC => ?_) (AllReadyH.cons (by simp only [List.getElem?_toArray, List.getElem?_cons_succ, List.getElem?_cons_zero]; rfl) (fun kC hkC => ?_) AllReadyH.nil)
                -- operation 4 of state 6
                · go_simp
                  refine (HLS.out _ hN).mono ?_; rintro e3 wq' ⟨gs, cp, rfl, hlo, hgl, c1, hkk⟩; have ns := And.intro (Nat.le_trans k1.size hlo) hgl; have hN := hN.no hkk; have k1 := k1.trans hkk; (try have ne : gs ≠ g1 := fun e => by (have := blk_lt p1; omega)); (try have p1 := hkk.blk p1 (fun f => f)); clear hkk hlo hgl; generalize wq' = wq at *; (try go_wp2_with fail)
                  refine hkC.out _ _ ?_ (fun hHeld => ?_)
                  · exact (⟨hN.tx.c 8 rfl, hN.tx.c 13 (by rw [← HK.out]; rfl)⟩)
                  clear hkC kC
                  try simp only [Act.put, List.setIfInBounds_toArray, List.set_cons_zero, List.set_cons_succ]
                  refine wpAnyH_take (i := 9) (v := ?_) (by simp only [List.getElem?_toArray, List.getElem?_cons_succ, List.getElem?_cons_zero]; rfl) (by kernel_rfl) (by kernel_rfl) (by kernel_rfl) (by exact fun _ _ _ h => h) (Or.inl ⟨by rfl, ?_⟩) hHeld ?_
                  rotate_left
                  · intro w hSw; (try dsimp only at hSw); go_simp; (try with_reducible rfl)
                  try simp only [Act.put, List.setIfInBounds_toArray, List.set_cons_zero, List.set_cons_succ]
                  exact hD4 gs cp _ ⟨hN, k1, c1, ns⟩
                -- operation 11 of state 6
                · go_simp
                  have n1 : w.heap.size ≤ wq.heap.size := k1.size; have p1 := heap_alloc_new wq (.cells #[.int .i64 0, .int .i64 0] 54); have k1 := k1.alloc (.cells #[.int .i64 0, .int .i64 0] 54); have ka := (Keeps.refl NoS wq).alloc (.cells #[.int .i64 0, .int .i64 0] 54); have hN := hN.no ka; (try have ne : gs ≠ wq.heap.size := by omega); (try have c1 := And.intro (ka.cell c1.1 (fun f => f)) (ka.cell c1.2 (fun f => f))); (try have ns := And.intro ns.1 (Nat.lt_of_lt_of_le ns.2 ka.size)); clear ka; obtain ⟨g1, hg1⟩ : ∃ g, wq.heap.size = g := ⟨_, rfl⟩; (try rw [hg1] at ne); rw [hg1] at n1 p1 ⊢; clear hg1; generalize wq.alloc (.cells #[.int .i64 0, .int .i64 0] 54) = wq at *
                  refine hkC.out _ _ ?_ (fun hHeld => ?_)
                  · exact (⟨hN.tx.c 8 rfl, hN.tx.c 13 (by rw [← HK.out]; rfl)⟩)
                  clear hkC kC
                  try simp only [Act.put, List.setIfInBounds_toArray, List.set_cons_zero, List.set_cons_succ]
                  exact hD5 g1 _ ⟨hN, k1, p1, n1⟩
              · intro g1 wq hR
                obtain ⟨hN, k1, p1, n1⟩ := hR
                have hHeld : (fun w' => w'.cell? ⟨X, 8, none⟩ = some (.pointer (some ⟨wa, 0, none⟩)) ∧ w'.cell? ⟨X, 13, none⟩ = some (.int .i64 (k : Int))) wq := ⟨hN.tx.c 8 rfl, hN.tx.c 13 (by rw [← HK.out]; rfl)⟩
                refine wpAnyH_ready (rs := [4]) (by kernel_rfl) (by simp) ?_
                refine AllReadyH.cons (by simp only [List.getElem?_toArray, List.getElem?_cons_succ, List.getElem?_cons_zero]; rfl) (fun kC hkC => ?_) AllReadyH.nil
                -- operation 4 of state 5
                · go_simp
                  refine (HLS.out _ hN).mono ?_; rintro e3 wq' ⟨gs, cp, rfl, hlo, hgl, c1, hkk⟩; have ns := And.intro (Nat.le_trans k1.size hlo) hgl; have hN := hN.no hkk; have k1 := k1.trans hkk; (try have ne : gs ≠ g1 := fun e => by (have := blk_lt p1; omega)); (try have p1 := hkk.blk p1 (fun f => f)); clear hkk hlo hgl; generalize wq' = wq at *; (try go_wp2_with fail)
                  refine hkC.out _ _ ?_ (fun hHeld => ?_)
                  · exact (⟨hN.tx.c 8 rfl, hN.tx.c 13 (by rw [← HK.out]; rfl)⟩)
                  clear hkC kC
                  try simp only [Act.put, List.setIfInBounds_toArray, List.set_cons_zero, List.set_cons_succ]
                  refine wpAnyH_take (i := 9) (v := ?_) (by simp only [List.getElem?_toArray, List.getElem?_cons_succ, List.getElem?_cons_zero]; rfl) (by kernel_rfl) (by kernel_rfl) (by kernel_rfl) (by exact fun _ _ _ h => h) (Or.inl ⟨by rfl, ?_⟩) hHeld ?_
                  rotate_left
                  · intro w hSw; (try dsimp only at hSw); go_simp; (try with_reducible rfl)
                  try simp only [Act.put, List.setIfInBounds_toArray, List.set_cons_zero, List.set_cons_succ]
                  exact hD3 gs cp g1 _ ⟨hN, k1, c1, ns, p1, n1, ne⟩
            · intro gs cp wq hR
              obtain ⟨hN, k1, c1, ns⟩ := hR
              have hHeld : (fun w' => w'.cell? ⟨X, 8, none⟩ = some (.pointer (some ⟨wa, 0, none⟩)) ∧ w'.cell? ⟨X, 13, none⟩ = some (.int .i64 (k : Int))) wq := ⟨hN.tx.c 8 rfl, hN.tx.c 13 (by rw [← HK.out]; rfl)⟩
              refine wpAnyH_ready (rs := [10, 11]) (by kernel_rfl) (by simp) ?_
              refine AllReadyH.cons (by simp only [List.getElem?_toArray, List.getElem?_cons_succ, List.getElem?_cons_zero]; rfl) (fun kC hkC => ?_) (AllReadyH.cons (by simp only [List.getElem?_toArray, List.getElem?_cons_succ, List.getElem?_cons_zero]; rfl) (fun kC hkC => ?_) AllReadyH.nil)
              -- operation 10 of state 4
              · obtain ⟨x1, x2⟩ := c1; go_simp; have c1 := And.intro x1 x2; clear x1 x2
                refine hkC.out _ _ ?_ (fun hHeld => ?_)
                · exact (⟨hN.tx.c 8 rfl, hN.tx.c 13 (by rw [← HK.out]; rfl)⟩)
                clear hkC kC
                try simp only [Act.put, List.setIfInBounds_toArray, List.set_cons_zero, List.set_cons_succ]
                exact hD2 gs cp _ ⟨hN, k1, c1, ns⟩
              -- operation 11 of state 4
              · go_simp
                have n1 : w.heap.size ≤ wq.heap.size := k1.size; have p1 := heap_alloc_new wq (.cells #[.int .i64 0, .int .i64 0] 54); have k1 := k1.alloc (.cells #[.int .i64 0, .int .i64 0] 54); have ka := (Keeps.refl NoS wq).alloc (.cells #[.int .i64 0, .int .i64 0] 54); have hN := hN.no ka; (try have ne : gs ≠ wq.heap.size := by omega); (try have c1 := And.intro (ka.cell c1.1 (fun f => f)) (ka.cell c1.2 (fun f => f))); (try have ns := And.intro ns.1 (Nat.lt_of_lt_of_le ns.2 ka.size)); clear ka; obtain ⟨g1, hg1⟩ : ∃ g, wq.heap.size = g := ⟨_, rfl⟩; (try rw [hg1] at ne); rw [hg1] at n1 p1 ⊢; clear hg1; generalize wq.alloc (.cells #[.int .i64 0, .int .i64 0] 54) = wq at *
                refine hkC.out _ _ ?_ (fun hHeld => ?_)
                · exact (⟨hN.tx.c 8 rfl, hN.tx.c 13 (by rw [← HK.out]; rfl)⟩)
                clear hkC kC
                try simp only [Act.put, List.setIfInBounds_toArray, List.set_cons_zero, List.set_cons_succ]
                exact hD3 gs cp g1 _ ⟨hN, k1, c1, ns, p1, n1, ne⟩
          · intro gs cp g1 wq hR
            obtain ⟨hN, k1, c1, ns, p1, n1, ne⟩ := hR
            have hHeld : (fun w' => w'.cell? ⟨X, 8, none⟩ = some (.pointer (some ⟨wa, 0, none⟩)) ∧ w'.cell? ⟨X, 13, none⟩ = some (.int .i64 (k : Int))) wq := ⟨hN.tx.c 8 rfl, hN.tx.c 13 (by rw [← HK.out]; rfl)⟩
            refine wpAnyH_ready (rs := [10]) (by kernel_rfl) (by simp) ?_
            refine AllReadyH.cons (by simp only [List.getElem?_toArray, List.getElem?_cons_succ, List.getElem?_cons_zero]; rfl) (fun kC hkC => ?_) AllReadyH.nil
            -- operation 10 of state 3
            · obtain ⟨x1, x2⟩ := c1; go_simp; have c1 := And.intro x1 x2; clear x1 x2
              refine hkC.out _ _ ?_ (fun hHeld => ?_)
              · exact (⟨hN.tx.c 8 rfl, hN.tx.c 13 (by rw [← HK.out]; rfl)⟩)
              clear hkC kC
              try simp only [Act.put, List.setIfInBounds_toArray, List.set_cons_zero, List.set_cons_succ]
              exact hD1 gs cp g1 _ ⟨hN, k1, c1, ns, p1, n1, ne⟩
        · intro gs cp wq hR
          obtain ⟨hN, k1, c1, ns⟩ := hR
          have hHeld : (fun w' => w'.cell? ⟨X, 8, none⟩ = some (.pointer (some ⟨wa, 0, none⟩)) ∧ w'.cell? ⟨X, 13, none⟩ = some (.int .i64 (k : Int))) wq := ⟨hN.tx.c 8 rfl, hN.tx.c 13 (by rw [← HK.out]; rfl)⟩
          refine wpAnyH_ready (rs := [11]) (by kernel_rfl) (by simp) ?_
          refine AllReadyH.cons (by simp only [List.getElem?_toArray, List.getElem?_cons_succ, List.getElem?_cons_zero]; rfl) (fun kC hkC => ?_) AllReadyH.nil
          -- operation 11 of state 2
          · go_simp
            have n1 : w.heap.size ≤ wq.heap.size := k1.size; have p1 := heap_alloc_new wq (.cells #[.int .i64 0, .int .i64 0] 54); have k1 := k1.alloc (.cells #[.int .i64 0, .int .i64 0] 54); have ka := (Keeps.refl NoS wq).alloc (.cells #[.int .i64 0, .int .i64 0] 54); have hN := hN.no ka; (try have ne : gs ≠ wq.heap.size := by omega); (try have c1 := And.intro (ka.cell c1.1 (fun f => f)) (ka.cell c1.2 (fun f => f))); (try have ns := And.intro ns.1 (Nat.lt_of_lt_of_le ns.2 ka.size)); clear ka; obtain ⟨g1, hg1⟩ : ∃ g, wq.heap.size = g := ⟨_, rfl⟩; (try rw [hg1] at ne); rw [hg1] at n1 p1 ⊢; clear hg1; generalize wq.alloc (.cells #[.int .i64 0, .int .i64 0] 54) = wq at *
            refine hkC.out _ _ ?_ (fun hHeld => ?_)
            · exact (⟨hN.tx.c 8 rfl, hN.tx.c 13 (by rw [← HK.out]; rfl)⟩)
            clear hkC kC
            try simp only [Act.put, List.setIfInBounds_toArray, List.set_cons_zero, List.set_cons_succ]
            exact hD1 gs cp g1 _ ⟨hN, k1, c1, ns, p1, n1, ne⟩
      · intro gs cp g1 wq hR
        obtain ⟨hN, k1, c1, ns, p1, n1, ne⟩ := hR
        have hHeld : (fun w' => w'.cell? ⟨X, 8, none⟩ = some (.pointer (some ⟨wa, 0, none⟩)) ∧ w'.cell? ⟨X, 13, none⟩ = some (.int .i64 (k : Int))) wq := ⟨hN.tx.c 8 rfl, hN.tx.c 13 (by rw [← HK.out]; rfl)⟩
        refine wpAnyH_ready (rs := [12]) (by kernel_rfl) (by simp) ?_
        refine AllReadyH.cons (by simp only [List.getElem?_toArray, List.getElem?_cons_succ, List.getElem?_cons_zero]; rfl) (fun kC hkC => ?_) AllReadyH.nil
        -- operation 12 of state 1
        · have y0 : wq.cell? ⟨g1, 0, none⟩ = some (.int .i64 0) := blk_cell p1 0; have y1 : wq.cell? ⟨g1, 1, none⟩ = some (.int .i64 0) := blk_cell p1 1; have yf0 := blk_free p1 0; have yf1 := blk_free p1 1; have yl := blk_lt p1; go_simp; have kk : Keeps (just g1) wq ((wq.setCell ⟨g1, 0, none⟩ (.int .i64 oa)).setCell ⟨g1, 1, none⟩ (.int .i64 ov)) := (keepsX wq g1 0 (.int .i64 oa)).trans (keepsX _ g1 1 (.int .i64 ov)); have p1 := blk_set (blk_set p1 0 (.int .i64 oa)) 1 (.int .i64 ov); have hN := hN.far kk (fun g e e2 => by have e3 : g = g1 := e2; have := HXF.out g e; omega); have k1 := k1.trans' kk (fun i hi e => by have e3 : i = g1 := e; omega); have c1 := And.intro (kk.cell c1.1 (show ¬ just g1 gs from fun e => ne e)) (kk.cell c1.2 (show ¬ just g1 gs from fun e => ne e)); have ns := And.intro ns.1 (Nat.lt_of_lt_of_le ns.2 kk.size); generalize (wq.setCell ⟨g1, 0, none⟩ (.int .i64 oa)).setCell ⟨g1, 1, none⟩ (.int .i64 ov) = wq at *; clear y0 y1 yf0 yf1 yl kk
          refine hkC.out _ _ ?_ (fun hHeld => ?_)
          · exact (⟨hN.tx.c 8 rfl, hN.tx.c 13 (by rw [← HK.out]; rfl)⟩)
          clear hkC kC
          try simp only [Act.put, List.setIfInBounds_toArray, List.set_cons_zero, List.set_cons_succ]
          exact hD0 gs cp g1 _ ⟨hN, k1, c1, ns, p1, n1, ne⟩
    intro gs cp g1 wq hR
    obtain ⟨hN, k1, c1, ns, p1, n1, ne⟩ := hR
    refine wpAnyH_done (by kernel_rfl) ?_ _
    clear hHeld c1 ns ne
    have y0 : wq.cell? ⟨g1, 0, none⟩ = some (.int .i64 oa) := blk_cell p1 0
    have y1 : wq.cell? ⟨g1, 1, none⟩ = some (.int .i64 ov) := blk_cell p1 1
    have yl := blk_lt p1
    go_upto_region 22 with (go_at_call 16; refine (store_tot a v M oa ov _ hN.mm).mono ?_; rintro e w2 ⟨rfl, hm, hk2⟩; have h2 := hN.mem hm hk2)
    clear y0 y1 yl
    have kq : Keeps (kXm X a v) w w2 := k1.no.trans (km_m hk2)
    have f13 := h2.tx.f 13
    have c13 := h2.tx.c 13 (u := .int .i64 (k : Int)) (by rw [← HK.out]; rfl)
    have hl := h2.tx.lt
    have h4 := h2.set 13 (.int .i64 ((k : Int) + 1)) (t' := { t with i := (k : Int) + 1 }) rfl rfl rfl rfl
    have kp := kq.trans (kx_m (keepsX w2 X 13 (.int .i64 ((k : Int) + 1))))
    have kw := HKW.out
    go_upto_region 32 with fail
    (try rw [kw])
    generalize w2.setCell ⟨X, 13, none⟩ (.int .i64 ((k : Int) + 1)) = ws at *
    clear f13 c13 hl h2 kq hm hk2 kw p1 n1 hN k1
    go_wp2_with (go_at_call 77; refine (xsettle_any h4).mono ?_; rintro e w9 ⟨rfl, h9, k9⟩)
    go_ret
    rw [HRES.out]
    exact ⟨rfl, h.km (kp.trans (kx_m k9)) h9⟩
  by_cases p6 : t.part = 6
  · have c12 := h.tx.c 12 (u := .int .i64 6) (by rw [← p6]; rfl)
    have HRES := Lib.hid (show res = (M.storeI 1 t.made, (settleT { t with took := false, part := 7 }, 0)) by rw [← hres]; unfold commitT; rw [if_neg p3, if_neg p4, if_neg p2, if_neg p5, if_pos p6])
    clear hres p2 p3 p4 p5 p6 hp
    go_enter Try.func55, Try.ntmps55
    go_upto_region 24 with fail
    have hd := h.no ((Keeps.refl NoS w).drew)
    clear c12 hl
    refine wp_region_held_drew (S := (fun w' => (w'.cell? ⟨X, 0, none⟩ = some (.int .i64 3) ∧ w'.cell? ⟨X, 1, none⟩ = some (.int .i64 1) ∧ w'.cell? ⟨X, 2, none⟩ = some (.int .i64 3) ∧ w'.cell? ⟨X, 3, none⟩ = some (.int .i64 0) ∧ w'.cell? ⟨X, 4, none⟩ = some (.int .i64 4)) ∧ w'.cell? ⟨X, 20, none⟩ = some (.int .i64 t.made))) (by kernel_rfl) (⟨hd.tx.mp, hd.tx.c 20 rfl⟩) (fun hHeld => ?_)
    refine wpAnyH_take (i := 0) (v := ?_) (by simp only [List.getElem?_toArray, List.getElem?_cons_succ, List.getElem?_cons_zero]; rfl) (by kernel_rfl) (by kernel_rfl) (by kernel_rfl) (by exact fun _ _ _ h => h) (Or.inl ⟨by rfl, ?_⟩) hHeld ?_
    rotate_left
    · intro w hSw; (try dsimp only at hSw); go_simp; (try with_reducible rfl)
    try simp only [Act.put, List.setIfInBounds_toArray, List.set_cons_zero, List.set_cons_succ]
    refine wpAnyH_take (i := 1) (v := ?_) (by simp only [List.getElem?_toArray, List.getElem?_cons_succ, List.getElem?_cons_zero]; rfl) (by kernel_rfl) (by kernel_rfl) (by kernel_rfl) (by exact fun _ _ _ h => h) (Or.inl ⟨by rfl, ?_⟩) hHeld ?_
    rotate_left
    · intro w hSw; (try dsimp only at hSw); go_simp; (try with_reducible rfl)
    try simp only [Act.put, List.setIfInBounds_toArray, List.set_cons_zero, List.set_cons_succ]
    refine wpAnyH_take (i := 2) (v := ?_) (by simp only [List.getElem?_toArray, List.getElem?_cons_succ, List.getElem?_cons_zero]; rfl) (by kernel_rfl) (by kernel_rfl) (by kernel_rfl) (by exact fun _ _ _ h => h) (Or.inl ⟨by rfl, ?_⟩) hHeld ?_
    rotate_left
    · intro w hSw; (try dsimp only at hSw); go_simp; (try with_reducible rfl)
    try simp only [Act.put, List.setIfInBounds_toArray, List.set_cons_zero, List.set_cons_succ]
    refine wpAnyH_take (i := 3) (v := ?_) (by simp only [List.getElem?_toArray, List.getElem?_cons_succ, List.getElem?_cons_zero]; rfl) (by kernel_rfl) (by kernel_rfl) (by kernel_rfl) (by exact fun _ _ _ h => h) (Or.inl ⟨by rfl, ?_⟩) hHeld ?_
    rotate_left
    · intro w hSw; (try dsimp only at hSw); go_simp; (try with_reducible rfl)
    try simp only [Act.put, List.setIfInBounds_toArray, List.set_cons_zero, List.set_cons_succ]
    refine wpAnyH_take (i := 4) (v := ?_) (by simp only [List.getElem?_toArray, List.getElem?_cons_succ, List.getElem?_cons_zero]; rfl) (by kernel_rfl) (by kernel_rfl) (by kernel_rfl) (by exact fun _ _ _ h => h) (Or.inl ⟨by rfl, ?_⟩) hHeld ?_
    rotate_left
    · intro w hSw; (try dsimp only at hSw); go_simp; (try with_reducible rfl)
    try simp only [Act.put, List.setIfInBounds_toArray, List.set_cons_zero, List.set_cons_succ]
    refine wpAnyH_take (i := 6) (v := ?_) (by simp only [List.getElem?_toArray, List.getElem?_cons_succ, List.getElem?_cons_zero]; rfl) (by kernel_rfl) (by kernel_rfl) (by kernel_rfl) (by exact fun _ _ _ h => h) (Or.inl ⟨by rfl, ?_⟩) hHeld ?_
    rotate_left
    · intro w hSw; (try dsimp only at hSw); go_simp; (try with_reducible rfl)
    try simp only [Act.put, List.setIfInBounds_toArray, List.set_cons_zero, List.set_cons_succ]
    refine wpAnyH_take (i := 7) (v := ?_) (by simp only [List.getElem?_toArray, List.getElem?_cons_succ, List.getElem?_cons_zero]; rfl) (by kernel_rfl) (by kernel_rfl) (by kernel_rfl) (by exact fun _ _ _ h => h) (Or.inl ⟨by rfl, ?_⟩) hHeld ?_
    rotate_left
    · intro w hSw; (try dsimp only at hSw); go_simp; (try with_reducible rfl)
    try simp only [Act.put, List.setIfInBounds_toArray, List.set_cons_zero, List.set_cons_succ]
    refine wpAnyH_take (i := 8) (v := ?_) (by simp only [List.getElem?_toArray, List.getElem?_cons_succ, List.getElem?_cons_zero]; rfl) (by kernel_rfl) (by kernel_rfl) (by kernel_rfl) (by exact fun _ _ _ h => h) (Or.inl ⟨by rfl, ?_⟩) hHeld ?_
    rotate_left
    · intro w hSw; (try dsimp only at hSw); go_simp; (try with_reducible rfl)
    try simp only [Act.put, List.setIfInBounds_toArray, List.set_cons_zero, List.set_cons_succ]
    refine wpAnyH_take (i := 9) (v := ?_) (by simp only [List.getElem?_toArray, List.getElem?_cons_succ, List.getElem?_cons_zero]; rfl) (by kernel_rfl) (by kernel_rfl) (by kernel_rfl) (by exact fun _ _ _ h => h) (Or.inl ⟨by rfl, ?_⟩) hHeld ?_
    rotate_left
    · intro w hSw; (try dsimp only at hSw); go_simp; (try with_reducible rfl)
    try simp only [Act.put, List.setIfInBounds_toArray, List.set_cons_zero, List.set_cons_succ]
    refine wpAnyH_ready (rs := [5]) (by kernel_rfl) (by simp) ?_
    refine AllReadyH.cons (by simp only [List.getElem?_toArray, List.getElem?_cons_succ, List.getElem?_cons_zero]; rfl) (fun kC hkC => ?_) AllReadyH.nil
    go_simp
    refine (seq_lit 3 1 3 0 4 1 seq1 _).mono ?_; rintro e w2 ⟨rfl, hk2⟩; have h2 := hd.no hk2
    (try go_wp2_with fail)
    refine hkC.out _ _ (⟨h2.tx.mp, h2.tx.c 20 rfl⟩) (fun hHeld => ?_)
    clear hkC kC
    try simp only [Act.put, List.setIfInBounds_toArray, List.set_cons_zero, List.set_cons_succ]
    refine wpAnyH_ready (rs := [10]) (by kernel_rfl) (by simp) ?_
    refine AllReadyH.cons (by simp only [List.getElem?_toArray, List.getElem?_cons_succ, List.getElem?_cons_zero]; rfl) (fun kC hkC => ?_) AllReadyH.nil
    go_simp
    refine (store_tot a v M 1 t.made _ h2.mm).mono ?_; rintro e w3 ⟨rfl, hm, hk3⟩; have h3 := h2.mem hm hk3
    (try go_wp2_with fail)
    refine hkC.out _ _ (⟨h3.tx.mp, h3.tx.c 20 rfl⟩) (fun hHeld => ?_)
    clear hkC kC
    try simp only [Act.put, List.setIfInBounds_toArray, List.set_cons_zero, List.set_cons_succ]
    refine wpAnyH_done (by kernel_rfl) ?_ _
    have k3' : Keeps (kXm X a v) w w3 := (kx_m ((Keeps.refl (just X) w).drew)).trans (hk2.no.trans (km_m hk3))
    clear hm hk2 hk3 h2 hd hHeld
    have f21 := h3.tx.f 21; have f12 := h3.tx.f 12
    have c21 := h3.tx.c 21 (u := .bool t.took) rfl; have c12 := h3.tx.c 12 (u := .int .i64 t.part) rfl
    have hl := h3.tx.lt
    have h5 := (h3.set 21 (.bool false) (t' := { t with took := false }) rfl rfl rfl rfl).set 12 (.int .i64 7) (t' := { t with took := false, part := 7 }) rfl rfl rfl rfl
    have k5 := k3'.trans (kx_m ((keepsX w3 X 21 (.bool false)).trans (keepsX _ X 12 (.int .i64 7))))
    go_upto_region 32 with fail
    generalize (w3.setCell ⟨X, 21, none⟩ (.bool false)).setCell ⟨X, 12, none⟩ (.int .i64 7) = w6 at *
    clear f21 f12 c21 c12 hl h3 k3'
    go_wp2_with (go_at_call 77; refine (xsettle_any h5).mono ?_; rintro e w9 ⟨rfl, h9, k9⟩)
    go_ret
    rw [HRES.out]
    exact ⟨rfl, h.km (k5.trans (kx_m k9)) h9⟩
  have p7 : t.part = 7 := by
    rcases hp with e | e | ⟨e, _⟩ | ⟨e, _⟩ | e | e
    · exact absurd e p3
    · exact absurd e p4
    · exact absurd e p2
    · exact absurd e p5
    · exact absurd e p6
    · exact e
  have c12 := h.tx.c 12 (u := .int .i64 7) (by rw [← p7]; rfl)
  have hr2 : res = (M.storeI (phA t) 0, (doneT (if (0 : Int) < t.W.length then { t with phased := false, stamp := t.made } else { t with phased := false }), 1)) := by rw [← hres]; unfold commitT; rw [if_neg p3, if_neg p4, if_neg p2, if_neg p5, if_neg p6]
  clear hres p2 p3 p4 p5 p6 p7 hp
  by_cases qw : (0 : Int) < t.W.length
  · have hwn : 0 < t.W.length := by omega
    have HRES := Lib.hid (show res = (M.storeI (phA t) 0, (doneT { t with phased := false, stamp := t.made }, 1)) by rw [hr2, if_pos qw])
    clear hr2 qw
    go_enter Try.func55, Try.ntmps55
    go_upto_region 27 with fail
    have hd := h.no ((Keeps.refl NoS w).drew)
    clear c12 hl
    refine wp_region_held_drew (S := (fun w' => (w'.cell? ⟨X, 0, none⟩ = some (.int .i64 3) ∧ w'.cell? ⟨X, 1, none⟩ = some (.int .i64 1) ∧ w'.cell? ⟨X, 2, none⟩ = some (.int .i64 3) ∧ w'.cell? ⟨X, 3, none⟩ = some (.int .i64 0) ∧ w'.cell? ⟨X, 4, none⟩ = some (.int .i64 4)) ∧ w'.cell? ⟨X, 5, none⟩ = some (.int .i64 t.th))) (by kernel_rfl) (⟨hd.tx.mp, hd.tx.c 5 rfl⟩) (fun hHeld => ?_)
    refine wpAnyH_take (i := 0) (v := ?_) (by simp only [List.getElem?_toArray, List.getElem?_cons_succ, List.getElem?_cons_zero]; rfl) (by kernel_rfl) (by kernel_rfl) (by kernel_rfl) (by exact fun _ _ _ h => h) (Or.inl ⟨by rfl, ?_⟩) hHeld ?_
    rotate_left
    · intro w hSw; (try dsimp only at hSw); go_simp; (try with_reducible rfl)
    try simp only [Act.put, List.setIfInBounds_toArray, List.set_cons_zero, List.set_cons_succ]
    refine wpAnyH_take (i := 1) (v := ?_) (by simp only [List.getElem?_toArray, List.getElem?_cons_succ, List.getElem?_cons_zero]; rfl) (by kernel_rfl) (by kernel_rfl) (by kernel_rfl) (by exact fun _ _ _ h => h) (Or.inl ⟨by rfl, ?_⟩) hHeld ?_
    rotate_left
    · intro w hSw; (try dsimp only at hSw); go_simp; (try with_reducible rfl)
    try simp only [Act.put, List.setIfInBounds_toArray, List.set_cons_zero, List.set_cons_succ]
    refine wpAnyH_take (i := 2) (v := ?_) (by simp only [List.getElem?_toArray, List.getElem?_cons_succ, List.getElem?_cons_zero]; rfl) (by kernel_rfl) (by kernel_rfl) (by kernel_rfl) (by exact fun _ _ _ h => h) (Or.inl ⟨by rfl, ?_⟩) hHeld ?_
    rotate_left
    · intro w hSw; (try dsimp only at hSw); go_simp; (try with_reducible rfl)
    try simp only [Act.put, List.setIfInBounds_toArray, List.set_cons_zero, List.set_cons_succ]
    refine wpAnyH_take (i := 3) (v := ?_) (by simp only [List.getElem?_toArray, List.getElem?_cons_succ, List.getElem?_cons_zero]; rfl) (by kernel_rfl) (by kernel_rfl) (by kernel_rfl) (by exact fun _ _ _ h => h) (Or.inl ⟨by rfl, ?_⟩) hHeld ?_
    rotate_left
    · intro w hSw; (try dsimp only at hSw); go_simp; (try with_reducible rfl)
    try simp only [Act.put, List.setIfInBounds_toArray, List.set_cons_zero, List.set_cons_succ]
    refine wpAnyH_take (i := 4) (v := ?_) (by simp only [List.getElem?_toArray, List.getElem?_cons_succ, List.getElem?_cons_zero]; rfl) (by kernel_rfl) (by kernel_rfl) (by kernel_rfl) (by exact fun _ _ _ h => h) (Or.inl ⟨by rfl, ?_⟩) hHeld ?_
    rotate_left
    · intro w hSw; (try dsimp only at hSw); go_simp; (try with_reducible rfl)
    try simp only [Act.put, List.setIfInBounds_toArray, List.set_cons_zero, List.set_cons_succ]
    refine wpAnyH_take (i := 5) (v := ?_) (by simp only [List.getElem?_toArray, List.getElem?_cons_succ, List.getElem?_cons_zero]; rfl) (by kernel_rfl) (by kernel_rfl) (by kernel_rfl) (by exact fun _ _ _ h => h) (Or.inl ⟨by rfl, ?_⟩) hHeld ?_
    rotate_left
    · intro w hSw; (try dsimp only at hSw); go_simp; (try with_reducible rfl)
    try simp only [Act.put, List.setIfInBounds_toArray, List.set_cons_zero, List.set_cons_succ]
    refine wpAnyH_take (i := 6) (v := ?_) (by simp only [List.getElem?_toArray, List.getElem?_cons_succ, List.getElem?_cons_zero]; rfl) (by kernel_rfl) (by kernel_rfl) (by kernel_rfl) (by exact fun _ _ _ h => h) (Or.inl ⟨by rfl, ?_⟩) hHeld ?_
    rotate_left
    · intro w hSw; (try dsimp only at hSw); go_simp; (try with_reducible rfl)
    try simp only [Act.put, List.setIfInBounds_toArray, List.set_cons_zero, List.set_cons_succ]
    refine wpAnyH_take (i := 7) (v := ?_) (by simp only [List.getElem?_toArray, List.getElem?_cons_succ, List.getElem?_cons_zero]; rfl) (by kernel_rfl) (by kernel_rfl) (by kernel_rfl) (by exact fun _ _ _ h => h) (Or.inl ⟨by rfl, ?_⟩) hHeld ?_
    rotate_left
    · intro w hSw; (try dsimp only at hSw); go_simp; (try with_reducible rfl)
    try simp only [Act.put, List.setIfInBounds_toArray, List.set_cons_zero, List.set_cons_succ]
    refine wpAnyH_take (i := 8) (v := ?_) (by simp only [List.getElem?_toArray, List.getElem?_cons_succ, List.getElem?_cons_zero]; rfl) (by kernel_rfl) (by kernel_rfl) (by kernel_rfl) (by exact fun _ _ _ h => h) (Or.inl ⟨by rfl, ?_⟩) hHeld ?_
    rotate_left
    · intro w hSw; (try dsimp only at hSw); go_simp; (try with_reducible rfl)
    try simp only [Act.put, List.setIfInBounds_toArray, List.set_cons_zero, List.set_cons_succ]
    refine wpAnyH_ready (rs := [9]) (by kernel_rfl) (by simp) ?_
    refine AllReadyH.cons (by simp only [List.getElem?_toArray, List.getElem?_cons_succ, List.getElem?_cons_zero]; rfl) (fun kC hkC => ?_) AllReadyH.nil
    go_simp
    refine (threadAt_lit 3 1 3 0 4 t.th 0 (phA t) HPH.out _).mono ?_; rintro e w2 ⟨rfl, hk2⟩; have h2 := hd.no hk2
    (try go_wp2_with fail)
    refine hkC.out _ _ (⟨h2.tx.mp, h2.tx.c 5 rfl⟩) (fun hHeld => ?_)
    clear hkC kC
    try simp only [Act.put, List.setIfInBounds_toArray, List.set_cons_zero, List.set_cons_succ]
    refine wpAnyH_ready (rs := [10]) (by kernel_rfl) (by simp) ?_
    refine AllReadyH.cons (by simp only [List.getElem?_toArray, List.getElem?_cons_succ, List.getElem?_cons_zero]; rfl) (fun kC hkC => ?_) AllReadyH.nil
    go_simp
    refine (store_tot a v M (phA t) 0 _ h2.mm).mono ?_; rintro e w3 ⟨rfl, hm, hk3⟩; have h3 := h2.mem hm hk3
    (try go_wp2_with fail)
    refine hkC.out _ _ (⟨h3.tx.mp, h3.tx.c 5 rfl⟩) (fun hHeld => ?_)
    clear hkC kC
    try simp only [Act.put, List.setIfInBounds_toArray, List.set_cons_zero, List.set_cons_succ]
    refine wpAnyH_done (by kernel_rfl) ?_ _
    have k3' : Keeps (kXm X a v) w w3 := (kx_m ((Keeps.refl (just X) w).drew)).trans (hk2.no.trans (km_m hk3))
    clear hm hk2 hk3 h2 hd hHeld
    have f22 := h3.tx.f 22; have c22 := h3.tx.c 22 (u := .bool t.phased) rfl; have hl := h3.tx.lt
    have h4 := h3.set 22 (.bool false) (t' := { t with phased := false }) rfl rfl rfl rfl
    have k4 := k3'.trans (kx_m (keepsX w3 X 22 (.bool false)))
    go_upto_region 29 with fail
    generalize w3.setCell ⟨X, 22, none⟩ (.bool false) = w4 at *
    clear f22 c22 hl h3 k3'
    have c8 := h4.tx.c 8 (u := .pointer (some ⟨wa, 0, none⟩)) rfl
    have f19 := h4.tx.f 19; have c19 := h4.tx.c 19 (u := .int .i64 t.stamp) rfl; have hl := h4.tx.lt
    have c20 := h4.tx.c 20 (u := .int .i64 t.made) rfl
    have h5 := h4.set 19 (.int .i64 t.made) (t' := { t with phased := false, stamp := t.made }) rfl rfl rfl rfl
    have k5 := k4.trans (kx_m (keepsX w4 X 19 (.int .i64 t.made)))
    go_upto_region 31 with (go_at_call 74; refine h4.tx.wlen.mono ?_; rintro e w5 ⟨rfl, hw⟩; obtain rfl := hw.symm)
    generalize w4.setCell ⟨X, 19, none⟩ (.int .i64 t.made) = w6 at *
    clear f19 c19 hl c20 c8 h4 k4
    go_wp2_with (go_at_call 53; refine (xdone_any h5).mono ?_; rintro e w7 ⟨rfl, h7, k7⟩)
    go_ret
    rw [HRES.out]
    exact ⟨rfl, h.km (k5.trans (kx_m k7)) h7⟩
  · have hwn : ¬ 0 < t.W.length := by omega
    have HRES := Lib.hid (show res = (M.storeI (phA t) 0, (doneT { t with phased := false }, 1)) by rw [hr2, if_neg qw])
    clear hr2 qw
    go_enter Try.func55, Try.ntmps55
    go_upto_region 27 with fail
    have hd := h.no ((Keeps.refl NoS w).drew)
    clear c12 hl
    refine wp_region_held_drew (S := (fun w' => (w'.cell? ⟨X, 0, none⟩ = some (.int .i64 3) ∧ w'.cell? ⟨X, 1, none⟩ = some (.int .i64 1) ∧ w'.cell? ⟨X, 2, none⟩ = some (.int .i64 3) ∧ w'.cell? ⟨X, 3, none⟩ = some (.int .i64 0) ∧ w'.cell? ⟨X, 4, none⟩ = some (.int .i64 4)) ∧ w'.cell? ⟨X, 5, none⟩ = some (.int .i64 t.th))) (by kernel_rfl) (⟨hd.tx.mp, hd.tx.c 5 rfl⟩) (fun hHeld => ?_)
    refine wpAnyH_take (i := 0) (v := ?_) (by simp only [List.getElem?_toArray, List.getElem?_cons_succ, List.getElem?_cons_zero]; rfl) (by kernel_rfl) (by kernel_rfl) (by kernel_rfl) (by exact fun _ _ _ h => h) (Or.inl ⟨by rfl, ?_⟩) hHeld ?_
    rotate_left
    · intro w hSw; (try dsimp only at hSw); go_simp; (try with_reducible rfl)
    try simp only [Act.put, List.setIfInBounds_toArray, List.set_cons_zero, List.set_cons_succ]
    refine wpAnyH_take (i := 1) (v := ?_) (by simp only [List.getElem?_toArray, List.getElem?_cons_succ, List.getElem?_cons_zero]; rfl) (by kernel_rfl) (by kernel_rfl) (by kernel_rfl) (by exact fun _ _ _ h => h) (Or.inl ⟨by rfl, ?_⟩) hHeld ?_
    rotate_left
    · intro w hSw; (try dsimp only at hSw); go_simp; (try with_reducible rfl)
    try simp only [Act.put, List.setIfInBounds_toArray, List.set_cons_zero, List.set_cons_succ]
    refine wpAnyH_take (i := 2) (v := ?_) (by simp only [List.getElem?_toArray, List.getElem?_cons_succ, List.getElem?_cons_zero]; rfl) (by kernel_rfl) (by kernel_rfl) (by kernel_rfl) (by exact fun _ _ _ h => h) (Or.inl ⟨by rfl, ?_⟩) hHeld ?_
    rotate_left
    · intro w hSw; (try dsimp only at hSw); go_simp; (try with_reducible rfl)
    try simp only [Act.put, List.setIfInBounds_toArray, List.set_cons_zero, List.set_cons_succ]
    refine wpAnyH_take (i := 3) (v := ?_) (by simp only [List.getElem?_toArray, List.getElem?_cons_succ, List.getElem?_cons_zero]; rfl) (by kernel_rfl) (by kernel_rfl) (by kernel_rfl) (by exact fun _ _ _ h => h) (Or.inl ⟨by rfl, ?_⟩) hHeld ?_
    rotate_left
    · intro w hSw; (try dsimp only at hSw); go_simp; (try with_reducible rfl)
    try simp only [Act.put, List.setIfInBounds_toArray, List.set_cons_zero, List.set_cons_succ]
    refine wpAnyH_take (i := 4) (v := ?_) (by simp only [List.getElem?_toArray, List.getElem?_cons_succ, List.getElem?_cons_zero]; rfl) (by kernel_rfl) (by kernel_rfl) (by kernel_rfl) (by exact fun _ _ _ h => h) (Or.inl ⟨by rfl, ?_⟩) hHeld ?_
    rotate_left
    · intro w hSw; (try dsimp only at hSw); go_simp; (try with_reducible rfl)
    try simp only [Act.put, List.setIfInBounds_toArray, List.set_cons_zero, List.set_cons_succ]
    refine wpAnyH_take (i := 5) (v := ?_) (by simp only [List.getElem?_toArray, List.getElem?_cons_succ, List.getElem?_cons_zero]; rfl) (by kernel_rfl) (by kernel_rfl) (by kernel_rfl) (by exact fun _ _ _ h => h) (Or.inl ⟨by rfl, ?_⟩) hHeld ?_
    rotate_left
    · intro w hSw; (try dsimp only at hSw); go_simp; (try with_reducible rfl)
    try simp only [Act.put, List.setIfInBounds_toArray, List.set_cons_zero, List.set_cons_succ]
    refine wpAnyH_take (i := 6) (v := ?_) (by simp only [List.getElem?_toArray, List.getElem?_cons_succ, List.getElem?_cons_zero]; rfl) (by kernel_rfl) (by kernel_rfl) (by kernel_rfl) (by exact fun _ _ _ h => h) (Or.inl ⟨by rfl, ?_⟩) hHeld ?_
    rotate_left
    · intro w hSw; (try dsimp only at hSw); go_simp; (try with_reducible rfl)
    try simp only [Act.put, List.setIfInBounds_toArray, List.set_cons_zero, List.set_cons_succ]
    refine wpAnyH_take (i := 7) (v := ?_) (by simp only [List.getElem?_toArray, List.getElem?_cons_succ, List.getElem?_cons_zero]; rfl) (by kernel_rfl) (by kernel_rfl) (by kernel_rfl) (by exact fun _ _ _ h => h) (Or.inl ⟨by rfl, ?_⟩) hHeld ?_
    rotate_left
    · intro w hSw; (try dsimp only at hSw); go_simp; (try with_reducible rfl)
    try simp only [Act.put, List.setIfInBounds_toArray, List.set_cons_zero, List.set_cons_succ]
    refine wpAnyH_take (i := 8) (v := ?_) (by simp only [List.getElem?_toArray, List.getElem?_cons_succ, List.getElem?_cons_zero]; rfl) (by kernel_rfl) (by kernel_rfl) (by kernel_rfl) (by exact fun _ _ _ h => h) (Or.inl ⟨by rfl, ?_⟩) hHeld ?_
    rotate_left
    · intro w hSw; (try dsimp only at hSw); go_simp; (try with_reducible rfl)
    try simp only [Act.put, List.setIfInBounds_toArray, List.set_cons_zero, List.set_cons_succ]
    refine wpAnyH_ready (rs := [9]) (by kernel_rfl) (by simp) ?_
    refine AllReadyH.cons (by simp only [List.getElem?_toArray, List.getElem?_cons_succ, List.getElem?_cons_zero]; rfl) (fun kC hkC => ?_) AllReadyH.nil
    go_simp
    refine (threadAt_lit 3 1 3 0 4 t.th 0 (phA t) HPH.out _).mono ?_; rintro e w2 ⟨rfl, hk2⟩; have h2 := hd.no hk2
    (try go_wp2_with fail)
    refine hkC.out _ _ (⟨h2.tx.mp, h2.tx.c 5 rfl⟩) (fun hHeld => ?_)
    clear hkC kC
    try simp only [Act.put, List.setIfInBounds_toArray, List.set_cons_zero, List.set_cons_succ]
    refine wpAnyH_ready (rs := [10]) (by kernel_rfl) (by simp) ?_
    refine AllReadyH.cons (by simp only [List.getElem?_toArray, List.getElem?_cons_succ, List.getElem?_cons_zero]; rfl) (fun kC hkC => ?_) AllReadyH.nil
    go_simp
    refine (store_tot a v M (phA t) 0 _ h2.mm).mono ?_; rintro e w3 ⟨rfl, hm, hk3⟩; have h3 := h2.mem hm hk3
    (try go_wp2_with fail)
    refine hkC.out _ _ (⟨h3.tx.mp, h3.tx.c 5 rfl⟩) (fun hHeld => ?_)
    clear hkC kC
    try simp only [Act.put, List.setIfInBounds_toArray, List.set_cons_zero, List.set_cons_succ]
    refine wpAnyH_done (by kernel_rfl) ?_ _
    have k3' : Keeps (kXm X a v) w w3 := (kx_m ((Keeps.refl (just X) w).drew)).trans (hk2.no.trans (km_m hk3))
    clear hm hk2 hk3 h2 hd hHeld
    have f22 := h3.tx.f 22; have c22 := h3.tx.c 22 (u := .bool t.phased) rfl; have hl := h3.tx.lt
    have h4 := h3.set 22 (.bool false) (t' := { t with phased := false }) rfl rfl rfl rfl
    have k4 := k3'.trans (kx_m (keepsX w3 X 22 (.bool false)))
    go_upto_region 29 with fail
    generalize w3.setCell ⟨X, 22, none⟩ (.bool false) = w4 at *
    clear f22 c22 hl h3 k3'
    have c8 := h4.tx.c 8 (u := .pointer (some ⟨wa, 0, none⟩)) rfl
    go_wp2_with (first
      | (go_at_call 74; refine h4.tx.wlen.mono ?_; rintro e w5 ⟨rfl, hw⟩; obtain rfl := hw.symm)
      | (go_at_call 53; refine (xdone_any h4).mono ?_; rintro e w7 ⟨rfl, h7, k7⟩))
    go_ret
    rw [HRES.out]
    exact ⟨rfl, h.km (k4.trans (kx_m k7)) h7⟩
end Go.Proofs.Ytfmamedkiaimpaa
