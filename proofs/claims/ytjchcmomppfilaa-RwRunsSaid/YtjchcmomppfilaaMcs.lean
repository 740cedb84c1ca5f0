/- Package mcs at layer 8's map: a number's node, who fits. -/
import Derived.Test.YtjchcmomppfilaaMcsId
import Derived.Test.YtjchcmomppfilaaBox
import Derived.Deep.RegionHeld3
namespace Go.Proofs.Ytjchcmomppfilaa
open Go.RowKit
theorem map5 {w : World} {B : Nat} (h : MapAt w B 2 2 4 0 2) : (w.cell? ⟨B, 0, none⟩ = some (.int .i64 2) ∧ w.cell? ⟨B, 1, none⟩ = some (.int .i64 2) ∧ w.cell? ⟨B, 2, none⟩ = some (.int .i64 4) ∧ w.cell? ⟨B, 3, none⟩ = some (.int .i64 0) ∧ w.cell? ⟨B, 4, none⟩ = some (.int .i64 2)) := h
def ndI (l : Nat) (x : Int) (p : Nat) : Int := match thN l x with | some u => (ndA u l p : Nat) | none => -1
theorem nd_th (l : Nat) (hl : l < 2) (x : Int) (p : Nat) (hp : p < 2) : nodeP ⟨2, 2, 4, 0, 2⟩ (thI l x) l p = ndI l x p := by
  unfold thI ndI
  cases h : thN l x with
  | none =>
    show nodeP ⟨2, 2, 4, 0, 2⟩ (-1) l p = -1
    exact ndA_no (fun h => by omega)
  | some u => exact ndA_eq (thN_lt h).1 hl hp
set_option maxHeartbeats 1000000 in
set_option maxRecDepth 100000 in
theorem node8_any (l p : Nat) (x : Int) (hl : l < 2) (hp : p < 2) (w : World) : Calls Try.prog 53 #[.agg #[.int .i64 2, .int .i64 2, .int .i64 4, .int .i64 0, .int .i64 2], .int .i64 x, .int .i64 l, .int .i64 p] w fun e w' => e = .returned (.int .i64 (ndI l x p)) ∧ Keeps NoS w w' := by
  have hB := mapAt_new w 2 2 4 0 2 24
  have hk0 := (Keeps.refl NoS w).alloc (.cells #[.int .i64 2, .int .i64 2, .int .i64 4, .int .i64 0, .int .i64 2] 24)
  obtain ⟨R, hR⟩ : ∃ R, ndI l x p = R := ⟨_, rfl⟩
  have hN := nd_th l hl x p hp
  rw [hR] at hN ⊢
  obtain ⟨th, hth⟩ : ∃ th, thI l x = th := ⟨_, rfl⟩
  rw [hth] at hN
  have HN := Lib.hid hN; have HTH := Lib.hid hth
  clear hR hN hth
  go_enter Try.func53, Try.ntmps53
  go_wp2_with fail
  obtain ⟨B, hBe⟩ : ∃ B, w.heap.size = B := ⟨_, rfl⟩
  rw [hBe] at hB
  (try rw [hBe])
  clear hBe
  generalize w.alloc (.cells #[.int .i64 2, .int .i64 2, .int .i64 4, .int .i64 0, .int .i64 2] 24) = wa at *
  have hBd := hB.keep ((Keeps.refl NoS wa).drew) (fun f => f)
  refine wp_region_held_drew (S := (fun w' => (w'.cell? ⟨B, 0, none⟩ = some (.int .i64 2) ∧ w'.cell? ⟨B, 1, none⟩ = some (.int .i64 2) ∧ w'.cell? ⟨B, 2, none⟩ = some (.int .i64 4) ∧ w'.cell? ⟨B, 3, none⟩ = some (.int .i64 0) ∧ w'.cell? ⟨B, 4, none⟩ = some (.int .i64 2)))) (by kernel_rfl) (map5 hBd) (fun hHeld => ?_)
  refine wpAnyH_take (i := 0) (v := ?_) (by simp only [List.getElem?_toArray, List.getElem?_cons_succ, List.getElem?_cons_zero]; rfl) (by kernel_rfl) (by kernel_rfl) (by kernel_rfl) (by exact fun _ _ _ h => h) (Or.inl ⟨by rfl, ?_⟩) hHeld ?_
  rotate_left
  · intro w hSw; (try dsimp only at hSw); go_simp; (try with_reducible rfl)
  try simp only [Act.put, List.setIfInBounds_toArray, List.set_cons_zero, List.set_cons_succ]
  refine wpAnyH_take (i := 1) (v := ?_) (by simp only [List.getElem?_toArray, List.getElem?_cons_succ, List.getElem?_cons_zero]; rfl) (by kernel_rfl) (by kernel_rfl) (by kernel_rfl) (by exact fun _ _ _ h => h) (Or.inl ⟨by rfl, ?_⟩) hHeld ?_
  rotate_left
  · intro w hSw; (try dsimp only at hSw); go_simp; (try with_reducible rfl)
  try simp only [Act.put, List.setIfInBounds_toArray, List.set_cons_zero, List.set_cons_succ]
  refine wpAnyH_take (i := 2) (v := ?_) (by simp only [List.getElem?_toArray, List.getElem?_cons_succ, List.getElem?_cons_zero]; rfl) (by kernel_rfl) (by kernel_rfl) (by kernel_rfl) (by exact fun _ _ _ h => h) (Or.inl ⟨by rfl, ?_⟩) hHeld ?_
  rotate_left
  · intro w hSw; (try dsimp only at hSw); go_simp; (try with_reducible rfl)
  try simp only [Act.put, List.setIfInBounds_toArray, List.set_cons_zero, List.set_cons_succ]
  refine wpAnyH_take (i := 3) (v := ?_) (by simp only [List.getElem?_toArray, List.getElem?_cons_succ, List.getElem?_cons_zero]; rfl) (by kernel_rfl) (by kernel_rfl) (by kernel_rfl) (by exact fun _ _ _ h => h) (Or.inl ⟨by rfl, ?_⟩) hHeld ?_
  rotate_left
  · intro w hSw; (try dsimp only at hSw); go_simp; (try with_reducible rfl)
  try simp only [Act.put, List.setIfInBounds_toArray, List.set_cons_zero, List.set_cons_succ]
  refine wpAnyH_take (i := 5) (v := ?_) (by simp only [List.getElem?_toArray, List.getElem?_cons_succ, List.getElem?_cons_zero]; rfl) (by kernel_rfl) (by kernel_rfl) (by kernel_rfl) (by exact fun _ _ _ h => h) (Or.inl ⟨by rfl, ?_⟩) hHeld ?_
  rotate_left
  · intro w hSw; (try dsimp only at hSw); go_simp; (try with_reducible rfl)
  try simp only [Act.put, List.setIfInBounds_toArray, List.set_cons_zero, List.set_cons_succ]
  refine wpAnyH_take (i := 6) (v := ?_) (by simp only [List.getElem?_toArray, List.getElem?_cons_succ, List.getElem?_cons_zero]; rfl) (by kernel_rfl) (by kernel_rfl) (by kernel_rfl) (by exact fun _ _ _ h => h) (Or.inl ⟨by rfl, ?_⟩) hHeld ?_
  rotate_left
  · intro w hSw; (try dsimp only at hSw); go_simp; (try with_reducible rfl)
  try simp only [Act.put, List.setIfInBounds_toArray, List.set_cons_zero, List.set_cons_succ]
  refine wpAnyH_ready (rs := [4]) (by kernel_rfl) (by simp) ?_
  refine AllReadyH.cons (by simp only [List.getElem?_toArray, List.getElem?_cons_succ, List.getElem?_cons_zero]; rfl) (fun kC hkC => ?_) AllReadyH.nil
  go_simp
  refine (thread8_any l x hl _).mono ?_; rw [HTH.out]; rintro e w1 ⟨rfl, hk1⟩; have hB1 := hBd.keep hk1 (fun f => f)
  (try go_wp2_with fail)
  refine hkC.out _ _ (map5 hB1) (fun hHeld => ?_)
  clear hkC kC
  try simp only [Act.put, List.setIfInBounds_toArray, List.set_cons_zero, List.set_cons_succ]
  refine wpAnyH_ready (rs := [7]) (by kernel_rfl) (by simp) ?_
  refine AllReadyH.cons (by simp only [List.getElem?_toArray, List.getElem?_cons_succ, List.getElem?_cons_zero]; rfl) (fun kC hkC => ?_) AllReadyH.nil
  go_simp
  refine (node_lit 2 2 4 0 2 th l p R HN.out _).mono ?_; rintro e w2 ⟨rfl, hk2⟩; have hB2 := hB1.keep hk2 (fun f => f)
  (try go_wp2_with fail)
  refine hkC.out _ _ (map5 hB2) (fun hHeld => ?_)
  clear hkC kC
  try simp only [Act.put, List.setIfInBounds_toArray, List.set_cons_zero, List.set_cons_succ]
  refine wpAnyH_take (i := 8) (v := ?_) (by simp only [List.getElem?_toArray, List.getElem?_cons_succ, List.getElem?_cons_zero]; rfl) (by kernel_rfl) (by kernel_rfl) (by kernel_rfl) (by exact fun _ _ _ h => h) (Or.inl ⟨by rfl, ?_⟩) hHeld ?_
  rotate_left
  · intro w hSw; (try dsimp only at hSw); go_simp; (try with_reducible rfl)
  try simp only [Act.put, List.setIfInBounds_toArray, List.set_cons_zero, List.set_cons_succ]
  refine wpAnyH_done (by kernel_rfl) ?_ _
  go_wp2_with fail
  go_ret
  exact ⟨rfl, hk0.trans (((Keeps.refl NoS wa).drew.trans hk1).trans hk2)⟩
/-- hands that may be, at layer 8's map -/
def okH (t l : Int) : Bool := decide (0 ≤ nodeP ⟨2, 2, 4, 0, 2⟩ t l 0)
theorem okH_yes {t l : Int} (h : okH t l = true) : ∃ a b : Nat, t = a ∧ l = b ∧ a < 4 ∧ b < 2 := by
  unfold okH at h
  have h' := of_decide_eq_true h
  obtain ⟨_, t0, t1, l0, l1, _, _⟩ := node_bd (m := ⟨2, 2, 4, 0, 2⟩) (t := t) (l := l) (p := 0) (by omega)
  dsimp only at t1 l1
  exact ⟨t.toNat, l.toNat, by omega, by omega, by omega, by omega⟩
theorem okH_nat {t l : Nat} (ht : t < 4) (hl : l < 2) : okH t l = true := by
  unfold okH
  have h : nodeP ⟨2, 2, 4, 0, 2⟩ t l 0 = (ndA t l 0 : Nat) := ndA_eq ht hl (p := 0) (by decide)
  rw [h]
  exact decide_eq_true (by omega)
theorem size8m : sizeP ⟨2, 2, 4, 0, 2⟩ = 48 := by kernel_rfl
set_option maxHeartbeats 1000000 in
set_option maxRecDepth 100000 in
theorem fits8_any (t l s : Int) (r : Bool) (x : Int) (a : Nat) (v : Value) (M : MemS) (w : World) (hA : MemAt w a v M) (hl : M.L.length = 48) : Calls Try.prog 49 #[.agg #[.int .i64 2, .int .i64 2, .int .i64 4, .int .i64 0, .int .i64 2], .pointer (some ⟨a, 0, none⟩), .agg #[.int .i64 t, .int .i64 l, .int .i64 s, .bool r, .int .i64 x]] w fun e w' => e = .returned (.bool (okH t l)) ∧ Keeps NoS w w' := by
  have hB := mapAt_new w 2 2 4 0 2 24
  have hH := handAt_new (w.alloc (.cells #[.int .i64 2, .int .i64 2, .int .i64 4, .int .i64 0, .int .i64 2] 24)) 37 t l s r x
  have hk0 := ((Keeps.refl NoS w).alloc (.cells #[.int .i64 2, .int .i64 2, .int .i64 4, .int .i64 0, .int .i64 2] 24)).alloc (.cells #[.int .i64 t, .int .i64 l, .int .i64 s, .bool r, .int .i64 x] 37)
  have hB' := hB.keep ((Keeps.refl NoS _).alloc (.cells #[.int .i64 t, .int .i64 l, .int .i64 s, .bool r, .int .i64 x] 37)) (fun f => f)
  have hA' := hA.keep hk0 (fun f => f) (fun _ _ f => f)
  obtain ⟨A, hAd⟩ : ∃ A, nodeP ⟨2, 2, 4, 0, 2⟩ t l 0 = A := ⟨_, rfl⟩
  have HAD := Lib.hid hAd; have HL := Lib.hid hl
  have hok : okH t l = decide (0 ≤ A) := by unfold okH; rw [hAd]
  rw [hok]
  obtain ⟨q, hq⟩ : ∃ q, decide (0 ≤ A) = q := ⟨_, rfl⟩
  rw [hq]
  obtain ⟨sz, hsz⟩ : ∃ sz : Int, ((M.L.length : Nat) : Int) = sz := ⟨_, rfl⟩
  have hsz2 : sizeP ⟨2, 2, 4, 0, 2⟩ = sz := by rw [← hsz, hl]; exact size8m
  have hlen : ∀ W, MemAt W a v M → Calls Try.prog 57 #[.pointer (some ⟨a, 0, none⟩)] W fun e w' => e = .returned (.int .i64 sz) ∧ W = w' := fun W h => by rw [← hsz]; exact mlen_any a v M W h
  have HLEN := Lib.hid hlen; have HSZ := Lib.hid hsz2
  clear hB hAd hl hok hsz hsz2 hlen hA
  go_enter Try.func49, Try.ntmps49
  go_wp2_with fail
  have hs1 : (w.alloc (.cells #[.int .i64 2, .int .i64 2, .int .i64 4, .int .i64 0, .int .i64 2] 24)).heap.size = w.heap.size + 1 := by simp
  rw [hs1] at hH
  obtain ⟨B, hBe⟩ : ∃ B, w.heap.size = B := ⟨_, rfl⟩
  rw [hBe] at hB' hH
  (try rw [hBe])
  clear hBe hs1
  generalize (w.alloc (.cells #[.int .i64 2, .int .i64 2, .int .i64 4, .int .i64 0, .int .i64 2] 24)).alloc (.cells #[.int .i64 t, .int .i64 l, .int .i64 s, .bool r, .int .i64 x] 37) = wa at *
  have hBd := hB'.keep ((Keeps.refl NoS wa).drew) (fun f => f)
  have hHd := hH.keep ((Keeps.refl NoS wa).drew) (fun f => f)
  have hAd := hA'.keep ((Keeps.refl NoS wa).drew) (fun f => f) (fun _ _ f => f)
  have hKd := hk0.drew
  clear hB' hH hA' hk0
  refine wp_region_held_drew (S := (fun w' => (w'.cell? ⟨B, 0, none⟩ = some (.int .i64 2) ∧ w'.cell? ⟨B, 1, none⟩ = some (.int .i64 2) ∧ w'.cell? ⟨B, 2, none⟩ = some (.int .i64 4) ∧ w'.cell? ⟨B, 3, none⟩ = some (.int .i64 0) ∧ w'.cell? ⟨B, 4, none⟩ = some (.int .i64 2)) ∧ (w'.cell? ⟨(B + 1), 0, none⟩ = some (.int .i64 t) ∧ w'.cell? ⟨(B + 1), 1, none⟩ = some (.int .i64 l) ∧ w'.cell? ⟨(B + 1), 2, none⟩ = some (.int .i64 s) ∧ w'.cell? ⟨(B + 1), 3, none⟩ = some (.bool r) ∧ w'.cell? ⟨(B + 1), 4, none⟩ = some (.int .i64 x)))) (by kernel_rfl) (⟨map5 hBd, hHd.cells.1, hHd.cells.2.1, hHd.cells.2.2.1, hHd.cells.2.2.2.1, hHd.cells.2.2.2.2.1⟩) (fun hHeld => ?_)
  refine wpAnyH_take (i := 0) (v := ?_) (by simp only [List.getElem?_toArray, List.getElem?_cons_succ, List.getElem?_cons_zero]; rfl) (by kernel_rfl) (by kernel_rfl) (by kernel_rfl) (by exact fun _ _ _ h => h) (Or.inl ⟨by rfl, ?_⟩) hHeld ?_
  rotate_left
  · intro w hSw; (try dsimp only at hSw); go_simp; (try with_reducible rfl)
  try simp only [Act.put, List.setIfInBounds_toArray, List.set_cons_zero, List.set_cons_succ]
  refine wpAnyH_take (i := 2) (v := ?_) (by simp only [List.getElem?_toArray, List.getElem?_cons_succ, List.getElem?_cons_zero]; rfl) (by kernel_rfl) (by kernel_rfl) (by kernel_rfl) (by exact fun _ _ _ h => h) (Or.inl ⟨by rfl, ?_⟩) hHeld ?_
  rotate_left
  · intro w hSw; (try dsimp only at hSw); go_simp; (try with_reducible rfl)
  try simp only [Act.put, List.setIfInBounds_toArray, List.set_cons_zero, List.set_cons_succ]
  refine wpAnyH_ready (rs := [1]) (by kernel_rfl) (by simp) ?_
  refine AllReadyH.cons (by simp only [List.getElem?_toArray, List.getElem?_cons_succ, List.getElem?_cons_zero]; rfl) (fun kC hkC => ?_) AllReadyH.nil
  go_simp
  refine (HLEN.out _ hAd).mono ?_; rintro e w1 ⟨rfl, rfl⟩
  (try go_wp2_with fail)
  refine hkC.out _ _ (⟨map5 hBd, hHd.cells.1, hHd.cells.2.1, hHd.cells.2.2.1, hHd.cells.2.2.2.1, hHd.cells.2.2.2.2.1⟩) (fun hHeld => ?_)
  clear hkC kC
  try simp only [Act.put, List.setIfInBounds_toArray, List.set_cons_zero, List.set_cons_succ]
  refine wpAnyH_ready (rs := [3]) (by kernel_rfl) (by simp) ?_
  refine AllReadyH.cons (by simp only [List.getElem?_toArray, List.getElem?_cons_succ, List.getElem?_cons_zero]; rfl) (fun kC hkC => ?_) AllReadyH.nil
  go_simp
  refine (size_lit 2 2 4 0 2 sz HSZ.out _).mono ?_; rintro e w2 ⟨rfl, hk2⟩; have hB2 := hBd.keep hk2 (fun f => f); have hH2 := hHd.keep hk2 (fun f => f)
  (try go_wp2_with fail)
  refine hkC.out _ _ (⟨map5 hB2, hH2.cells.1, hH2.cells.2.1, hH2.cells.2.2.1, hH2.cells.2.2.2.1, hH2.cells.2.2.2.2.1⟩) (fun hHeld => ?_)
  clear hkC kC
  try simp only [Act.put, List.setIfInBounds_toArray, List.set_cons_zero, List.set_cons_succ]
  refine wpAnyH_take (i := 4) (v := ?_) (by simp only [List.getElem?_toArray, List.getElem?_cons_succ, List.getElem?_cons_zero]; rfl) (by kernel_rfl) (by kernel_rfl) (by kernel_rfl) (by exact fun _ _ _ h => h) (Or.inl ⟨by rfl, ?_⟩) hHeld ?_
  rotate_left
  · intro w hSw; (try dsimp only at hSw); go_simp; (try with_reducible rfl)
  try simp only [Act.put, List.setIfInBounds_toArray, List.set_cons_zero, List.set_cons_succ]
  refine wpAnyH_take (i := 5) (v := ?_) (by simp only [List.getElem?_toArray, List.getElem?_cons_succ, List.getElem?_cons_zero]; rfl) (by kernel_rfl) (by kernel_rfl) (by kernel_rfl) (by exact fun _ _ _ h => h) (Or.inl ⟨by rfl, ?_⟩) hHeld ?_
  rotate_left
  · intro w hSw; (try dsimp only at hSw); go_simp; (try with_reducible rfl)
  try simp only [Act.put, List.setIfInBounds_toArray, List.set_cons_zero, List.set_cons_succ]
  refine wpAnyH_take (i := 6) (v := ?_) (by simp only [List.getElem?_toArray, List.getElem?_cons_succ, List.getElem?_cons_zero]; rfl) (by kernel_rfl) (by kernel_rfl) (by kernel_rfl) (by exact fun _ _ _ h => h) (Or.inl ⟨by rfl, ?_⟩) hHeld ?_
  rotate_left
  · intro w hSw; (try dsimp only at hSw); go_simp; (try with_reducible rfl)
  try simp only [Act.put, List.setIfInBounds_toArray, List.set_cons_zero, List.set_cons_succ]
  refine wpAnyH_take (i := 7) (v := ?_) (by simp only [List.getElem?_toArray, List.getElem?_cons_succ, List.getElem?_cons_zero]; rfl) (by kernel_rfl) (by kernel_rfl) (by kernel_rfl) (by exact fun _ _ _ h => h) (Or.inl ⟨by rfl, ?_⟩) hHeld ?_
  rotate_left
  · intro w hSw; (try dsimp only at hSw); go_simp; (try with_reducible rfl)
  try simp only [Act.put, List.setIfInBounds_toArray, List.set_cons_zero, List.set_cons_succ]
  refine wpAnyH_take (i := 8) (v := ?_) (by simp only [List.getElem?_toArray, List.getElem?_cons_succ, List.getElem?_cons_zero]; rfl) (by kernel_rfl) (by kernel_rfl) (by kernel_rfl) (by exact fun _ _ _ h => h) (Or.inl ⟨by rfl, ?_⟩) hHeld ?_
  rotate_left
  · intro w hSw; (try dsimp only at hSw); go_simp; (try with_reducible rfl)
  try simp only [Act.put, List.setIfInBounds_toArray, List.set_cons_zero, List.set_cons_succ]
  refine wpAnyH_take (i := 9) (v := ?_) (by simp only [List.getElem?_toArray, List.getElem?_cons_succ, List.getElem?_cons_zero]; rfl) (by kernel_rfl) (by kernel_rfl) (by kernel_rfl) (by exact fun _ _ _ h => h) (Or.inl ⟨by rfl, ?_⟩) hHeld ?_
  rotate_left
  · intro w hSw; (try dsimp only at hSw); go_simp; (try with_reducible rfl)
  try simp only [Act.put, List.setIfInBounds_toArray, List.set_cons_zero, List.set_cons_succ]
  refine wpAnyH_take (i := 10) (v := ?_) (by simp only [List.getElem?_toArray, List.getElem?_cons_succ, List.getElem?_cons_zero]; rfl) (by kernel_rfl) (by kernel_rfl) (by kernel_rfl) (by exact fun _ _ _ h => h) (Or.inl ⟨by rfl, ?_⟩) hHeld ?_
  rotate_left
  · intro w hSw; (try dsimp only at hSw); go_simp; (try with_reducible rfl)
  try simp only [Act.put, List.setIfInBounds_toArray, List.set_cons_zero, List.set_cons_succ]
  refine wpAnyH_ready (rs := [11]) (by kernel_rfl) (by simp) ?_
  refine AllReadyH.cons (by simp only [List.getElem?_toArray, List.getElem?_cons_succ, List.getElem?_cons_zero]; rfl) (fun kC hkC => ?_) AllReadyH.nil
  go_simp
  refine (node_lit 2 2 4 0 2 t l 0 A HAD.out _).mono ?_; rintro e w3 ⟨rfl, hk3⟩; have hB3 := hB2.keep hk3 (fun f => f); have hH3 := hH2.keep hk3 (fun f => f)
  (try go_wp2_with fail)
  refine hkC.out _ _ (⟨map5 hB3, hH3.cells.1, hH3.cells.2.1, hH3.cells.2.2.1, hH3.cells.2.2.2.1, hH3.cells.2.2.2.2.1⟩) (fun hHeld => ?_)
  clear hkC kC
  try simp only [Act.put, List.setIfInBounds_toArray, List.set_cons_zero, List.set_cons_succ]
  refine wpAnyH_take (i := 12) (v := ?_) (by simp only [List.getElem?_toArray, List.getElem?_cons_succ, List.getElem?_cons_zero]; rfl) (by kernel_rfl) (by kernel_rfl) (by kernel_rfl) (by exact fun _ _ _ h => h) (Or.inl ⟨by rfl, ?_⟩) hHeld ?_
  rotate_left
  · intro w hSw; (try dsimp only at hSw); go_simp; (try with_reducible rfl)
  try simp only [Act.put, List.setIfInBounds_toArray, List.set_cons_zero, List.set_cons_succ]
  refine wpAnyH_take (i := 13) (v := ?_) (by simp only [List.getElem?_toArray, List.getElem?_cons_succ, List.getElem?_cons_zero]; rfl) (by kernel_rfl) (by kernel_rfl) (by kernel_rfl) (by exact fun _ _ _ h => h) (Or.inl ⟨by rfl, ?_⟩) hHeld ?_
  rotate_left
  · intro w hSw; (try dsimp only at hSw); go_simp; (try with_reducible rfl)
  try simp only [Act.put, List.setIfInBounds_toArray, List.set_cons_zero, List.set_cons_succ]
  refine wpAnyH_take (i := 14) (v := ?_) (by simp only [List.getElem?_toArray, List.getElem?_cons_succ, List.getElem?_cons_zero]; rfl) (by kernel_rfl) (by kernel_rfl) (by kernel_rfl) (by exact fun _ _ _ h => h) (Or.inl ⟨by rfl, ?_⟩) hHeld ?_
  rotate_left
  · intro w hSw; (try dsimp only at hSw); go_simp; (try with_reducible rfl)
  try simp only [Act.put, List.setIfInBounds_toArray, List.set_cons_zero, List.set_cons_succ]
  refine wpAnyH_done (by kernel_rfl) ?_ _
  go_wp2_with fail
  go_ret
  exact ⟨by first | rfl | simp [hq], (hKd.trans hk2).trans hk3⟩
end Go.Proofs.Ytjchcmomppfilaa
