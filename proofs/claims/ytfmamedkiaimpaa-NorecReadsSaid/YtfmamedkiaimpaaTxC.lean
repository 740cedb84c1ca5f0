/- Package norec: undo, watches. -/
import Derived.Test.YtfmamedkiaimpaaTxB
import Derived.Test.YtfmamedkiaimpaaHeldT
namespace Go.Proofs.Ytfmamedkiaimpaa
open Go.RowKit
theorem TxAt.mp {w : World} {X ra wa : Nat} {rv wv vv : Value} {t : TxS} (h : TxAt w X ra wa rv wv vv t) : (w.cell? ⟨X, 0, none⟩ = some (.int .i64 3) ∧ w.cell? ⟨X, 1, none⟩ = some (.int .i64 1) ∧ w.cell? ⟨X, 2, none⟩ = some (.int .i64 3) ∧ w.cell? ⟨X, 3, none⟩ = some (.int .i64 0) ∧ w.cell? ⟨X, 4, none⟩ = some (.int .i64 4)) :=
  ⟨h.c 0 rfl, h.c 1 rfl, h.c 2 rfl, h.c 3 rfl, h.c 4 rfl⟩
def kXm (X a : Nat) (v : Value) : Nat → Prop := fun g => g = X ∨ own2m a v g
theorem kx_m {X a : Nat} {v : Value} {w w' : World} (k : Keeps (just X) w w') : Keeps (kXm X a v) w w' := k.mono fun _ e => .inl e
theorem km_m {X a : Nat} {v : Value} {w w' : World} (k : Keeps (own2m a v) w w') : Keeps (kXm X a v) w w' := k.mono fun _ e => .inr e
/-- where a thread's phase stands -/
def phA (t : TxS) : Int := threadP ⟨3, 1, 3, 0, 4⟩ t.th 0
theorem seq1 : seqP ⟨3, 1, 3, 0, 4⟩ = 1 := by decide
def undoT (M : MemS) (t : TxS) : MemS × (TxS × Int) := if t.took then (M.storeI 1 t.stamp, undoneT { t with took := false }) else (M.storeI (phA t) 0, undoneT { t with phased := false })
def watchesT (M : MemS) (t : TxS) (k : Nat) : MemS × (TxS × Bool) := (M.loadI (t.V.getD k (0, 0)).1, ({ t with i := (k : Int) + 1 }, M.atP (t.V.getD k (0, 0)).1 == (t.V.getD k (0, 0)).2))

set_option maxHeartbeats 4000000 in
set_option maxRecDepth 100000 in
theorem xundo_any {w : World} {a X ra wa : Nat} {v rv wv vv : Value} {M : MemS} {t : TxS} (h : NX w a v M X ra wa rv wv vv t)  : Calls Try.prog 50 #[.pointer (some ⟨X, 0, none⟩), .pointer (some ⟨a, 0, none⟩)] w fun e w' => e = .returned (.int .i64 (undoT M t).2.2) ∧ NX w' a v (undoT M t).1 X ra wa rv wv vv (undoT M t).2.1 ∧ Keeps (kXm X a v) w w' := by
  have hl := h.tx.lt
  have c21 := h.tx.c 21 (u := .bool t.took) rfl
  cases qt : t.took with
  | true =>
    rw [qt] at c21
    rw [show undoT M t = (M.storeI 1 t.stamp, undoneT { t with took := false }) by unfold undoT; rw [qt]; rfl]
    clear qt
    have HP := Lib.hid (show threadP ⟨3, 1, 3, 0, 4⟩ t.th 0 = phA t from rfl)
    go_enter Try.func50, Try.ntmps50
    go_upto_region 2 with fail
    have hd := h.no ((Keeps.refl NoS w).drew)
    clear c21 hl
    refine wp_region_held_drew (S := (fun w' => (w'.cell? ⟨X, 0, none⟩ = some (.int .i64 3) ∧ w'.cell? ⟨X, 1, none⟩ = some (.int .i64 1) ∧ w'.cell? ⟨X, 2, none⟩ = some (.int .i64 3) ∧ w'.cell? ⟨X, 3, none⟩ = some (.int .i64 0) ∧ w'.cell? ⟨X, 4, none⟩ = some (.int .i64 4)) ∧ w'.cell? ⟨X, 19, none⟩ = some (.int .i64 t.stamp))) (by kernel_rfl) (⟨hd.tx.mp, hd.tx.c 19 rfl⟩) (fun hHeld => ?_)
    refine wpAnyH_take (i := 0) (v := ?_) (by simp only [List.getElem?_toArray, List.getElem?_cons_succ, List.getElem?_cons_zero]; rfl) (by kernel_rfl) (by kernel_rfl) (by kernel_rfl) (by exact fun _ _ _ h => h) (Or.inl ⟨by rfl, ?_⟩) hHeld ?_
    rotate_left
    · intro w hSw; (try dsimp only at hSw); go_simp; (try with_reducible rfl)
    try simp only [Act.put, List.setIfInBounds_toArray, List.set_cons_zero, List.set_cons_succ]
    refine wpAnyH_take (i := 1) (v := ?_) (by simp only [List.getElem?_toArray, List.getElem?_cons_succ, List.getElem?_cons_zero]; rfl) (by kernel_rfl) (by kernel_rfl) (by kernel_rfl) (by exact fun _ _ _ h => h) (Or.inl ⟨by rfl, ?_⟩) hHeld ?_
    rotate_left
    · intro w hSw; (try dsimp only at hSw); go_simp; (try with_reducible rfl)
    try simp only [Act.put, List.setIfInBounds_toArray, List.set_cons_zero, List.set_cons_succ]
    refine wpAnyH_take (i := 2) (v := ?_) (by simp only [List.getElem?_toArray, List.getElem?_cons_succ, List.getElem?_cons_zero]; rfl) (by kernel_rfl) (by kernel_rfl) (by kernel_rfl) (by exact fun _ _ _ h => h) (Or.inl ⟨by rfl, ?_⟩) hHeld ?_
    rotate_left
    · intro w hSw; (try dsimp only at hSw); go_simp; (try with_reducible rfl)
    try simp only [Act.put, List.setIfInBounds_toArray, List.set_cons_zero, List.set_cons_succ]
    refine wpAnyH_take (i := 3) (v := ?_) (by simp only [List.getElem?_toArray, List.getElem?_cons_succ, List.getElem?_cons_zero]; rfl) (by kernel_rfl) (by kernel_rfl) (by kernel_rfl) (by exact fun _ _ _ h => h) (Or.inl ⟨by rfl, ?_⟩) hHeld ?_
    rotate_left
    · intro w hSw; (try dsimp only at hSw); go_simp; (try with_reducible rfl)
    try simp only [Act.put, List.setIfInBounds_toArray, List.set_cons_zero, List.set_cons_succ]
    refine wpAnyH_take (i := 4) (v := ?_) (by simp only [List.getElem?_toArray, List.getElem?_cons_succ, List.getElem?_cons_zero]; rfl) (by kernel_rfl) (by kernel_rfl) (by kernel_rfl) (by exact fun _ _ _ h => h) (Or.inl ⟨by rfl, ?_⟩) hHeld ?_
    rotate_left
    · intro w hSw; (try dsimp only at hSw); go_simp; (try with_reducible rfl)
    try simp only [Act.put, List.setIfInBounds_toArray, List.set_cons_zero, List.set_cons_succ]
    refine wpAnyH_take (i := 6) (v := ?_) (by simp only [List.getElem?_toArray, List.getElem?_cons_succ, List.getElem?_cons_zero]; rfl) (by kernel_rfl) (by kernel_rfl) (by kernel_rfl) (by exact fun _ _ _ h => h) (Or.inl ⟨by rfl, ?_⟩) hHeld ?_
    rotate_left
    · intro w hSw; (try dsimp only at hSw); go_simp; (try with_reducible rfl)
    try simp only [Act.put, List.setIfInBounds_toArray, List.set_cons_zero, List.set_cons_succ]
    refine wpAnyH_take (i := 7) (v := ?_) (by simp only [List.getElem?_toArray, List.getElem?_cons_succ, List.getElem?_cons_zero]; rfl) (by kernel_rfl) (by kernel_rfl) (by kernel_rfl) (by exact fun _ _ _ h => h) (Or.inl ⟨by rfl, ?_⟩) hHeld ?_
    rotate_left
    · intro w hSw; (try dsimp only at hSw); go_simp; (try with_reducible rfl)
    try simp only [Act.put, List.setIfInBounds_toArray, List.set_cons_zero, List.set_cons_succ]
    refine wpAnyH_take (i := 8) (v := ?_) (by simp only [List.getElem?_toArray, List.getElem?_cons_succ, List.getElem?_cons_zero]; rfl) (by kernel_rfl) (by kernel_rfl) (by kernel_rfl) (by exact fun _ _ _ h => h) (Or.inl ⟨by rfl, ?_⟩) hHeld ?_
    rotate_left
    · intro w hSw; (try dsimp only at hSw); go_simp; (try with_reducible rfl)
    try simp only [Act.put, List.setIfInBounds_toArray, List.set_cons_zero, List.set_cons_succ]
    refine wpAnyH_take (i := 9) (v := ?_) (by simp only [List.getElem?_toArray, List.getElem?_cons_succ, List.getElem?_cons_zero]; rfl) (by kernel_rfl) (by kernel_rfl) (by kernel_rfl) (by exact fun _ _ _ h => h) (Or.inl ⟨by rfl, ?_⟩) hHeld ?_
    rotate_left
    · intro w hSw; (try dsimp only at hSw); go_simp; (try with_reducible rfl)
    try simp only [Act.put, List.setIfInBounds_toArray, List.set_cons_zero, List.set_cons_succ]
    refine wpAnyH_ready (rs := [5]) (by kernel_rfl) (by simp) ?_
    refine AllReadyH.cons (by simp only [List.getElem?_toArray, List.getElem?_cons_succ, List.getElem?_cons_zero]; rfl) (fun kC hkC => ?_) AllReadyH.nil
    go_simp
    refine (seq_lit 3 1 3 0 4 1 seq1 _).mono ?_; rintro e w2 ⟨rfl, hk2⟩; have h2 := hd.no hk2
    (try go_wp2_with fail)
    refine hkC.out _ _ (⟨h2.tx.mp, h2.tx.c 19 rfl⟩) (fun hHeld => ?_)
    clear hkC kC
    try simp only [Act.put, List.setIfInBounds_toArray, List.set_cons_zero, List.set_cons_succ]
    refine wpAnyH_ready (rs := [10]) (by kernel_rfl) (by simp) ?_
    refine AllReadyH.cons (by simp only [List.getElem?_toArray, List.getElem?_cons_succ, List.getElem?_cons_zero]; rfl) (fun kC hkC => ?_) AllReadyH.nil
    go_simp
    refine (store_tot a v M 1 t.stamp _ h2.mm).mono ?_; rintro e w3 ⟨rfl, hm, hk3⟩; have h3 := h2.mem hm hk3
    (try go_wp2_with fail)
    refine hkC.out _ _ (⟨h3.tx.mp, h3.tx.c 19 rfl⟩) (fun hHeld => ?_)
    clear hkC kC
    try simp only [Act.put, List.setIfInBounds_toArray, List.set_cons_zero, List.set_cons_succ]
    refine wpAnyH_done (by kernel_rfl) ?_ _
    have k3 : Keeps (kXm X a v) w w3 := (kx_m ((Keeps.refl (just X) w).drew)).trans ((hk2.no).trans (km_m hk3))
    clear hm hk2 hk3 h2 hd h
    have f21 := h3.tx.f 21
    have c21 := h3.tx.c 21 (u := .bool t.took) rfl
    have hl := h3.tx.lt
    have h4 := h3.set 21 (.bool false) (t' := { t with took := false }) rfl rfl rfl rfl
    have k4 := keepsX w3 X 21 (.bool false)
    go_upto_region 6 with fail
    generalize w3.setCell ⟨X, 21, none⟩ (.bool false) = w4 at *
    clear f21 c21 hl
    go_wp2_with (go_at_call 68; refine (xundone_any h4).mono ?_; rintro e w5 ⟨rfl, h5, k5⟩)
    go_ret
    exact ⟨rfl, h5, k3.trans (kx_m (k4.trans k5))⟩
  | false =>
    rw [qt] at c21
    rw [show undoT M t = (M.storeI (phA t) 0, undoneT { t with phased := false }) by unfold undoT; rw [qt]; rfl]
    clear qt
    have HP := Lib.hid (show threadP ⟨3, 1, 3, 0, 4⟩ t.th 0 = phA t from rfl)
    go_enter Try.func50, Try.ntmps50
    go_upto_region 4 with fail
    have hd := h.no ((Keeps.refl NoS w).drew)
    clear c21 hl
    refine wp_region_held_drew (S := (fun w' => (w'.cell? ⟨X, 0, none⟩ = some (.int .i64 3) ∧ w'.cell? ⟨X, 1, none⟩ = some (.int .i64 1) ∧ w'.cell? ⟨X, 2, none⟩ = some (.int .i64 3) ∧ w'.cell? ⟨X, 3, none⟩ = some (.int .i64 0) ∧ w'.cell? ⟨X, 4, none⟩ = some (.int .i64 4)) ∧ w'.cell? ⟨X, 5, none⟩ = some (.int .i64 t.th))) (by kernel_rfl) (⟨hd.tx.mp, hd.tx.c 5 rfl⟩) (fun hHeld => ?_)
    refine wpAnyH_take (i := 0) (v := ?_) (by simp only [List.getElem?_toArray, List.getElem?_cons_succ, List.getElem?_cons_zero]; rfl) (by kernel_rfl) (by kernel_rfl) (by kernel_rfl) (by exact fun _ _ _ h => h) (Or.inl ⟨by rfl, ?_⟩) hHeld ?_
    rotate_left
    · intro w hSw; (try dsimp only at hSw); go_simp; (try with_reducible rfl)
    try simp only [Act.put, List.setIfInBounds_toArray, List.set_cons_zero, List.set_cons_succ]
    refine wpAnyH_take (i := 1) (v := ?_) (by simp only [List.getElem?_toArray, List.getElem?_cons_succ, List.getElem?_cons_zero]; rfl) (by kernel_rfl) (by kernel_rfl) (by kernel_rfl) (by exact fun _ _ _ h => h) (Or.inl ⟨by rfl, ?_⟩) hHeld ?_
    rotate_left
    · intro w hSw; (try dsimp only at hSw); go_simp; (try with_reducible rfl)
    try simp only [Act.put, List.setIfInBounds_toArray, List.set_cons_zero, List.set_cons_succ]
    refine wpAnyH_take (i := 2) (v := ?_) (by simp only [List.getElem?_toArray, List.getElem?_cons_succ, List.getElem?_cons_zero]; rfl) (by kernel_rfl) (by kernel_rfl) (by kernel_rfl) (by exact fun _ _ _ h => h) (Or.inl ⟨by rfl, ?_⟩) hHeld ?_
    rotate_left
    · intro w hSw; (try dsimp only at hSw); go_simp; (try with_reducible rfl)
    try simp only [Act.put, List.setIfInBounds_toArray, List.set_cons_zero, List.set_cons_succ]
    refine wpAnyH_take (i := 3) (v := ?_) (by simp only [List.getElem?_toArray, List.getElem?_cons_succ, List.getElem?_cons_zero]; rfl) (by kernel_rfl) (by kernel_rfl) (by kernel_rfl) (by exact fun _ _ _ h => h) (Or.inl ⟨by rfl, ?_⟩) hHeld ?_
    rotate_left
    · intro w hSw; (try dsimp only at hSw); go_simp; (try with_reducible rfl)
    try simp only [Act.put, List.setIfInBounds_toArray, List.set_cons_zero, List.set_cons_succ]
    refine wpAnyH_take (i := 4) (v := ?_) (by simp only [List.getElem?_toArray, List.getElem?_cons_succ, List.getElem?_cons_zero]; rfl) (by kernel_rfl) (by kernel_rfl) (by kernel_rfl) (by exact fun _ _ _ h => h) (Or.inl ⟨by rfl, ?_⟩) hHeld ?_
    rotate_left
    · intro w hSw; (try dsimp only at hSw); go_simp; (try with_reducible rfl)
    try simp only [Act.put, List.setIfInBounds_toArray, List.set_cons_zero, List.set_cons_succ]
    refine wpAnyH_take (i := 5) (v := ?_) (by simp only [List.getElem?_toArray, List.getElem?_cons_succ, List.getElem?_cons_zero]; rfl) (by kernel_rfl) (by kernel_rfl) (by kernel_rfl) (by exact fun _ _ _ h => h) (Or.inl ⟨by rfl, ?_⟩) hHeld ?_
    rotate_left
    · intro w hSw; (try dsimp only at hSw); go_simp; (try with_reducible rfl)
    try simp only [Act.put, List.setIfInBounds_toArray, List.set_cons_zero, List.set_cons_succ]
    refine wpAnyH_take (i := 6) (v := ?_) (by simp only [List.getElem?_toArray, List.getElem?_cons_succ, List.getElem?_cons_zero]; rfl) (by kernel_rfl) (by kernel_rfl) (by kernel_rfl) (by exact fun _ _ _ h => h) (Or.inl ⟨by rfl, ?_⟩) hHeld ?_
    rotate_left
    · intro w hSw; (try dsimp only at hSw); go_simp; (try with_reducible rfl)
    try simp only [Act.put, List.setIfInBounds_toArray, List.set_cons_zero, List.set_cons_succ]
    refine wpAnyH_take (i := 7) (v := ?_) (by simp only [List.getElem?_toArray, List.getElem?_cons_succ, List.getElem?_cons_zero]; rfl) (by kernel_rfl) (by kernel_rfl) (by kernel_rfl) (by exact fun _ _ _ h => h) (Or.inl ⟨by rfl, ?_⟩) hHeld ?_
    rotate_left
    · intro w hSw; (try dsimp only at hSw); go_simp; (try with_reducible rfl)
    try simp only [Act.put, List.setIfInBounds_toArray, List.set_cons_zero, List.set_cons_succ]
    refine wpAnyH_take (i := 8) (v := ?_) (by simp only [List.getElem?_toArray, List.getElem?_cons_succ, List.getElem?_cons_zero]; rfl) (by kernel_rfl) (by kernel_rfl) (by kernel_rfl) (by exact fun _ _ _ h => h) (Or.inl ⟨by rfl, ?_⟩) hHeld ?_
    rotate_left
    · intro w hSw; (try dsimp only at hSw); go_simp; (try with_reducible rfl)
    try simp only [Act.put, List.setIfInBounds_toArray, List.set_cons_zero, List.set_cons_succ]
    refine wpAnyH_ready (rs := [9]) (by kernel_rfl) (by simp) ?_
    refine AllReadyH.cons (by simp only [List.getElem?_toArray, List.getElem?_cons_succ, List.getElem?_cons_zero]; rfl) (fun kC hkC => ?_) AllReadyH.nil
    go_simp
    refine (threadAt_lit 3 1 3 0 4 t.th 0 (phA t) HP.out _).mono ?_; rintro e w2 ⟨rfl, hk2⟩; have h2 := hd.no hk2
    (try go_wp2_with fail)
    refine hkC.out _ _ (⟨h2.tx.mp, h2.tx.c 5 rfl⟩) (fun hHeld => ?_)
    clear hkC kC
    try simp only [Act.put, List.setIfInBounds_toArray, List.set_cons_zero, List.set_cons_succ]
    refine wpAnyH_ready (rs := [10]) (by kernel_rfl) (by simp) ?_
    refine AllReadyH.cons (by simp only [List.getElem?_toArray, List.getElem?_cons_succ, List.getElem?_cons_zero]; rfl) (fun kC hkC => ?_) AllReadyH.nil
    go_simp
    refine (store_tot a v M (phA t) 0 _ h2.mm).mono ?_; rintro e w3 ⟨rfl, hm, hk3⟩; have h3 := h2.mem hm hk3
    (try go_wp2_with fail)
    refine hkC.out _ _ (⟨h3.tx.mp, h3.tx.c 5 rfl⟩) (fun hHeld => ?_)
    clear hkC kC
    try simp only [Act.put, List.setIfInBounds_toArray, List.set_cons_zero, List.set_cons_succ]
    refine wpAnyH_done (by kernel_rfl) ?_ _
    have k3 : Keeps (kXm X a v) w w3 := (kx_m ((Keeps.refl (just X) w).drew)).trans ((hk2.no).trans (km_m hk3))
    clear hm hk2 hk3 h2 hd h
    have f22 := h3.tx.f 22
    have c22 := h3.tx.c 22 (u := .bool t.phased) rfl
    have hl := h3.tx.lt
    have h4 := h3.set 22 (.bool false) (t' := { t with phased := false }) rfl rfl rfl rfl
    have k4 := keepsX w3 X 22 (.bool false)
    go_upto_region 6 with fail
    generalize w3.setCell ⟨X, 22, none⟩ (.bool false) = w4 at *
    clear f22 c22 hl
    go_wp2_with (go_at_call 68; refine (xundone_any h4).mono ?_; rintro e w5 ⟨rfl, h5, k5⟩)
    go_ret
    exact ⟨rfl, h5, k3.trans (kx_m (k4.trans k5))⟩
set_option maxHeartbeats 4000000 in
set_option maxRecDepth 100000 in
theorem xwatches_any {w : World} {a X ra wa : Nat} {v rv wv vv : Value} {M : MemS} {t : TxS} (h : NX w a v M X ra wa rv wv vv t) (k : Nat) (hi : t.i = (k : Int)) (hk : k < t.V.length) (hb : t.V.length < 1000000) : Calls Try.prog 70 #[.pointer (some ⟨X, 0, none⟩), .pointer (some ⟨a, 0, none⟩)] w fun e w' => e = .returned (.bool (watchesT M t k).2.2) ∧ NX w' a v (watchesT M t k).1 X ra wa rv wv vv (watchesT M t k).2.1 ∧ Keeps (kXm X a v) w w' := by
  rcases owns_words h.tx.vs with ⟨_, hv⟩ | ⟨g, cap, hvv, hgl, hgf, hcs⟩
  · rw [hv] at hk; exact absurd hk (by simp)
  obtain ⟨e1, e2⟩ := hcs k hk
  have hgX : g ≠ X := (h.tx.o3 g (by rw [hvv]; rfl)).1
  have hgo : ¬ own2m a v g := fun e => h.ap g e (.inr (.inr (.inr (.inr (.inr (by rw [hvv]; rfl))))))
  subst hvv
  obtain ⟨p, hp⟩ : ∃ z, t.V.getD k (0, 0) = z := ⟨_, rfl⟩
  obtain ⟨pa, pv⟩ := p
  rw [hp] at e1 e2
  rw [show watchesT M t k = (M.loadI pa, ({ t with i := (k : Int) + 1 }, M.atP pa == pv)) by unfold watchesT; rw [hp]]
  dsimp only at e1 e2 ⊢
  have k0 : (0 : Int) ≤ (k : Int) := by omega
  have k1 : (k : Int) < (t.V.length : Int) := by omega
  have kw : IntKind.i64.wrap ((k : Int) + 1) = (k : Int) + 1 := IntWalk.i64_in _ (by have := hb; omega)
  have HKW := Lib.hid kw
  have HC := Lib.hid (fun (w' : World) (kk : Keeps NoS w w') => And.intro (kk.cell e1 (fun f => f)) (kk.cell e2 (fun f => f)))
  have HGX := Lib.hid hgX; have HGO := Lib.hid hgo; have HI := Lib.hid hi
  clear hp hcs e2 kw hgX hgo hi
  have c13 := h.tx.c 13 (u := .int .i64 (k : Int)) (by rw [← HI.out]; rfl)
  obtain ⟨at0, hat0⟩ : ∃ z, M.atP pa = z := ⟨_, rfl⟩
  have HAT := Lib.hid hat0
  rw [hat0]
  clear hat0
  go_enter Try.func70, Try.ntmps70
  go_upto_region 1 with fail
  have hd := h.no ((Keeps.refl NoS w).drew)
  have hcd := HC.out _ ((Keeps.refl NoS w).drew)
  clear e1 c13
  refine wp_region_held_drew (S := (fun w' => w'.cell? ⟨X, 9, none⟩ = some (.slice (some ⟨g, 0, none⟩) t.V.length cap) ∧ w'.cell? ⟨X, 13, none⟩ = some (.int .i64 (k : Int)) ∧ w'.cell? ⟨g, k * 2, none⟩ = some (.int .i64 pa))) (by kernel_rfl) (⟨hd.tx.c 9 rfl, hd.tx.c 13 (by rw [← HI.out]; rfl), hcd.1⟩) (fun hHeld => ?_)
  refine wpAnyH_take (i := 0) (v := ?_) (by simp only [List.getElem?_toArray, List.getElem?_cons_succ, List.getElem?_cons_zero]; rfl) (by kernel_rfl) (by kernel_rfl) (by kernel_rfl) (by exact fun _ _ _ h => h) (Or.inl ⟨by rfl, ?_⟩) hHeld ?_
  rotate_left
  · intro w hSw; (try dsimp only at hSw); go_simp; (try with_reducible rfl)
  try simp only [Act.put, List.setIfInBounds_toArray, List.set_cons_zero, List.set_cons_succ]
  refine wpAnyH_take (i := 1) (v := ?_) (by simp only [List.getElem?_toArray, List.getElem?_cons_succ, List.getElem?_cons_zero]; rfl) (by kernel_rfl) (by kernel_rfl) (by kernel_rfl) (by exact fun _ _ _ h => h) (Or.inl ⟨by rfl, ?_⟩) hHeld ?_
  rotate_left
  · intro w hSw; (try dsimp only at hSw); go_simp; (try with_reducible rfl)
  try simp only [Act.put, List.setIfInBounds_toArray, List.set_cons_zero, List.set_cons_succ]
  refine wpAnyH_take (i := 2) (v := ?_) (by simp only [List.getElem?_toArray, List.getElem?_cons_succ, List.getElem?_cons_zero]; rfl) (by kernel_rfl) (by kernel_rfl) (by kernel_rfl) (by exact fun _ _ _ h => h) (Or.inl ⟨by rfl, ?_⟩) hHeld ?_
  rotate_left
  · intro w hSw; (try dsimp only at hSw); go_simp; (try with_reducible rfl)
  try simp only [Act.put, List.setIfInBounds_toArray, List.set_cons_zero, List.set_cons_succ]
  refine wpAnyH_take (i := 3) (v := ?_) (by simp only [List.getElem?_toArray, List.getElem?_cons_succ, List.getElem?_cons_zero]; rfl) (by kernel_rfl) (by kernel_rfl) (by kernel_rfl) (by exact fun _ _ _ h => h) (Or.inl ⟨by rfl, ?_⟩) hHeld ?_
  rotate_left
  · intro w hSw; (try dsimp only at hSw); go_simp; (try with_reducible rfl)
  try simp only [Act.put, List.setIfInBounds_toArray, List.set_cons_zero, List.set_cons_succ]
  refine wpAnyH_take (i := 4) (v := ?_) (by simp only [List.getElem?_toArray, List.getElem?_cons_succ, List.getElem?_cons_zero]; rfl) (by kernel_rfl) (by kernel_rfl) (by kernel_rfl) (by exact fun _ _ _ h => h) (Or.inl ⟨by rfl, ?_⟩) hHeld ?_
  rotate_left
  · intro w hSw; (try dsimp only at hSw); go_simp; (try with_reducible rfl)
  try simp only [Act.put, List.setIfInBounds_toArray, List.set_cons_zero, List.set_cons_succ]
  refine wpAnyH_take (i := 5) (v := ?_) (by simp only [List.getElem?_toArray, List.getElem?_cons_succ, List.getElem?_cons_zero]; rfl) (by kernel_rfl) (by kernel_rfl) (by kernel_rfl) (by exact fun _ _ _ h => h) (Or.inl ⟨by rfl, ?_⟩) hHeld ?_
  rotate_left
  · intro w hSw; (try dsimp only at hSw); go_simp; (try with_reducible rfl)
  try simp only [Act.put, List.setIfInBounds_toArray, List.set_cons_zero, List.set_cons_succ]
  refine wpAnyH_take (i := 6) (v := ?_) (by simp only [List.getElem?_toArray, List.getElem?_cons_succ, List.getElem?_cons_zero]; rfl) (by kernel_rfl) (by kernel_rfl) (by kernel_rfl) (by exact fun _ _ _ h => h) (Or.inl ⟨by rfl, ?_⟩) hHeld ?_
  rotate_left
  · intro w hSw; (try dsimp only at hSw); go_simp; (try with_reducible rfl)
  try simp only [Act.put, List.setIfInBounds_toArray, List.set_cons_zero, List.set_cons_succ]
  refine wpAnyH_take (i := 7) (v := ?_) (by simp only [List.getElem?_toArray, List.getElem?_cons_succ, List.getElem?_cons_zero]; rfl) (by kernel_rfl) (by kernel_rfl) (by kernel_rfl) (by exact fun _ _ _ h => h) (Or.inl ⟨by rfl, ?_⟩) hHeld ?_
  rotate_left
  · intro w hSw; (try dsimp only at hSw); go_simp; (try with_reducible rfl)
  try simp only [Act.put, List.setIfInBounds_toArray, List.set_cons_zero, List.set_cons_succ]
  refine wpAnyH_take (i := 8) (v := ?_) (by simp only [List.getElem?_toArray, List.getElem?_cons_succ, List.getElem?_cons_zero]; rfl) (by kernel_rfl) (by kernel_rfl) (by kernel_rfl) (by exact fun _ _ _ h => h) (Or.inl ⟨by rfl, ?_⟩) hHeld ?_
  rotate_left
  · intro w hSw; (try dsimp only at hSw); go_simp; (try with_reducible rfl)
  try simp only [Act.put, List.setIfInBounds_toArray, List.set_cons_zero, List.set_cons_succ]
  refine wpAnyH_take (i := 9) (v := ?_) (by simp only [List.getElem?_toArray, List.getElem?_cons_succ, List.getElem?_cons_zero]; rfl) (by kernel_rfl) (by kernel_rfl) (by kernel_rfl) (by exact fun _ _ _ h => h) (Or.inl ⟨by rfl, ?_⟩) hHeld ?_
  rotate_left
  · intro w hSw; (try dsimp only at hSw); go_simp; (try with_reducible rfl)
  try simp only [Act.put, List.setIfInBounds_toArray, List.set_cons_zero, List.set_cons_succ]
  refine wpAnyH_take (i := 10) (v := ?_) (by simp only [List.getElem?_toArray, List.getElem?_cons_succ, List.getElem?_cons_zero]; rfl) (by kernel_rfl) (by kernel_rfl) (by kernel_rfl) (by exact fun _ _ _ h => h) (Or.inl ⟨by rfl, ?_⟩) hHeld ?_
  rotate_left
  · intro w hSw; (try dsimp only at hSw); go_simp; (try with_reducible rfl)
  try simp only [Act.put, List.setIfInBounds_toArray, List.set_cons_zero, List.set_cons_succ]
  refine wpAnyH_take (i := 11) (v := ?_) (by simp only [List.getElem?_toArray, List.getElem?_cons_succ, List.getElem?_cons_zero]; rfl) (by kernel_rfl) (by kernel_rfl) (by kernel_rfl) (by exact fun _ _ _ h => h) (Or.inl ⟨by rfl, ?_⟩) hHeld ?_
  rotate_left
  · intro w hSw; (try dsimp only at hSw); go_simp; (try with_reducible rfl)
  try simp only [Act.put, List.setIfInBounds_toArray, List.set_cons_zero, List.set_cons_succ]
  refine wpAnyH_ready (rs := [12]) (by kernel_rfl) (by simp) ?_
  refine AllReadyH.cons (by simp only [List.getElem?_toArray, List.getElem?_cons_succ, List.getElem?_cons_zero]; rfl) (fun kC hkC => ?_) AllReadyH.nil
  go_simp
  refine (load_tot a v M pa _ hd.mm).mono ?_; rw [HAT.out]; rintro e w2 ⟨rfl, hm, hk2⟩; have h2 := hd.mem hm hk2; have g1 := hk2.cell hcd.1 HGO.out; have g2 := hk2.cell hcd.2 HGO.out
  (try go_wp2_with fail)
  refine hkC.out _ _ (⟨h2.tx.c 9 rfl, h2.tx.c 13 (by rw [← HI.out]; rfl), g1⟩) (fun hHeld => ?_)
  clear hkC kC
  try simp only [Act.put, List.setIfInBounds_toArray, List.set_cons_zero, List.set_cons_succ]
  refine wpAnyH_take (i := 13) (v := ?_) (by simp only [List.getElem?_toArray, List.getElem?_cons_succ, List.getElem?_cons_zero]; rfl) (by kernel_rfl) (by kernel_rfl) (by kernel_rfl) (by exact fun _ _ _ h => h) (Or.inl ⟨by rfl, ?_⟩) hHeld ?_
  rotate_left
  · intro w hSw; (try dsimp only at hSw); go_simp; (try with_reducible rfl)
  try simp only [Act.put, List.setIfInBounds_toArray, List.set_cons_zero, List.set_cons_succ]
  refine wpAnyH_take (i := 14) (v := ?_) (by simp only [List.getElem?_toArray, List.getElem?_cons_succ, List.getElem?_cons_zero]; rfl) (by kernel_rfl) (by kernel_rfl) (by kernel_rfl) (by exact fun _ _ _ h => h) (Or.inl ⟨by rfl, ?_⟩) hHeld ?_
  rotate_left
  · intro w hSw; (try dsimp only at hSw); go_simp; (try with_reducible rfl)
  try simp only [Act.put, List.setIfInBounds_toArray, List.set_cons_zero, List.set_cons_succ]
  refine wpAnyH_take (i := 15) (v := ?_) (by simp only [List.getElem?_toArray, List.getElem?_cons_succ, List.getElem?_cons_zero]; rfl) (by kernel_rfl) (by kernel_rfl) (by kernel_rfl) (by exact fun _ _ _ h => h) (Or.inl ⟨by rfl, ?_⟩) hHeld ?_
  rotate_left
  · intro w hSw; (try dsimp only at hSw); go_simp; (try with_reducible rfl)
  try simp only [Act.put, List.setIfInBounds_toArray, List.set_cons_zero, List.set_cons_succ]
  refine wpAnyH_take (i := 16) (v := ?_) (by simp only [List.getElem?_toArray, List.getElem?_cons_succ, List.getElem?_cons_zero]; rfl) (by kernel_rfl) (by kernel_rfl) (by kernel_rfl) (by exact fun _ _ _ h => h) (Or.inl ⟨by rfl, ?_⟩) hHeld ?_
  rotate_left
  · intro w hSw; (try dsimp only at hSw); go_simp; (try with_reducible rfl)
  try simp only [Act.put, List.setIfInBounds_toArray, List.set_cons_zero, List.set_cons_succ]
  refine wpAnyH_take (i := 17) (v := ?_) (by simp only [List.getElem?_toArray, List.getElem?_cons_succ, List.getElem?_cons_zero]; rfl) (by kernel_rfl) (by kernel_rfl) (by kernel_rfl) (by exact fun _ _ _ h => h) (Or.inl ⟨by rfl, ?_⟩) hHeld ?_
  rotate_left
  · intro w hSw; (try dsimp only at hSw); go_simp; (try with_reducible rfl)
  try simp only [Act.put, List.setIfInBounds_toArray, List.set_cons_zero, List.set_cons_succ]
  refine wpAnyH_done (by kernel_rfl) ?_ _
  have k2 : Keeps (kXm X a v) w w2 := (kx_m ((Keeps.refl (just X) w).drew)).trans (km_m hk2)
  have f13 := h2.tx.f 13
  have c13 := h2.tx.c 13 (u := .int .i64 (k : Int)) (by rw [← HI.out]; rfl)
  have hl := h2.tx.lt
  have h3 := h2.set 13 (.int .i64 ((k : Int) + 1)) (t' := { t with i := (k : Int) + 1 }) rfl rfl rfl rfl
  have k3 := keepsX w2 X 13 (.int .i64 ((k : Int) + 1))
  have g3 := k3.cell g2 (show ¬ just X g from fun e => HGX.out e)
  have kw := HKW.out
  go_upto_region 3 with fail
  (try rw [kw])
  generalize w2.setCell ⟨X, 13, none⟩ (.int .i64 ((k : Int) + 1)) = w3 at *
  clear f13 c13 hl h2 hd hcd hm hk2 g1 g2 kw
  have c9 := h3.tx.c 9 (u := .slice (some ⟨g, 0, none⟩) t.V.length cap) rfl
  have c13 := h3.tx.c 13 (u := .int .i64 ((k : Int) + 1)) rfl
  have hl := h3.tx.lt
  go_quiet (fail)
  go_wp2_with fail
  go_ret
  exact ⟨rfl, h3.no ((Keeps.refl NoS _).drewN _), (k2.trans (kx_m k3)).trans (kx_m ((Keeps.refl (just X) _).drewN _))⟩
end Go.Proofs.Ytfmamedkiaimpaa
