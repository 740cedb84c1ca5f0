/- Whose the last node is: the program's, the document's. -/
import Derived.Test.YtjchcmomppfilaaMcsRef
namespace Go.Proofs.Ytjchcmomppfilaa
open Go.RowKit
def lastI (M : MemS) (l : Int) : Int := if 0 ≤ l ∧ l < 2 then thI l.toNat (M.word (tlA l.toNat)) else -1
theorem lockP_no {l : Int} (h : ¬ (0 ≤ l ∧ l < 2)) : lockP ⟨2, 2, 4, 0, 2⟩ l 0 = -1 := by
  unfold lockP
  rw [inB_not (i := l) (n := 2) h]; simp
set_option maxHeartbeats 4000000 in
set_option maxRecDepth 100000 in
theorem last8_any (l : Int) (a : Nat) (v : Value) (M : MemS) (w : World) (hA : MemAt w a v M) (hl48 : M.L.length = 48) : Calls Try.prog 22 #[.agg #[.int .i64 2, .int .i64 2, .int .i64 4, .int .i64 0, .int .i64 2], .pointer (some ⟨a, 0, none⟩), .int .i64 l] w fun e w' => e = .returned (.int .i64 (lastI M l)) ∧ Keeps NoS w w' := by
  have hB := mapAt_new w 2 2 4 0 2 24
  have hk0 := (Keeps.refl NoS w).alloc (.cells #[.int .i64 2, .int .i64 2, .int .i64 4, .int .i64 0, .int .i64 2] 24)
  have hA' := hA.keep hk0 (fun f => f) (fun _ _ f => f)
  obtain ⟨B, hBe⟩ : ∃ B, w.heap.size = B := ⟨_, rfl⟩
  rw [hBe] at hB
  have HBE := Lib.hid hBe; have HB := Lib.hid hB; have HK0 := Lib.hid hk0; have HA := Lib.hid hA'; have HL := Lib.hid hl48
  clear hBe hk0 hA' hA hl48
  by_cases hl : 0 ≤ l ∧ l < 2
  · obtain ⟨n, rfl⟩ := Int.eq_ofNat_of_zero_le hl.1
    have hn : n < 2 := by omega
    rw [show lastI M n = thI n (M.word (tlA n)) by unfold lastI; rw [if_pos hl, Int.toNat_natCast]]
    obtain ⟨c, hc⟩ : ∃ c, M.word (tlA n) = c := ⟨_, rfl⟩
    obtain ⟨R, hR⟩ : ∃ R, thI n c = R := ⟨_, rfl⟩
    rw [hc, hR]
    obtain ⟨A, hAA⟩ : ∃ A : Int, ((tlA n : Nat) : Int) = A := ⟨_, rfl⟩
    have hlk := tlA_eq hn
    rw [hAA] at hlk
    have hA0 : 0 ≤ A := by omega
    have HLK := Lib.hid hlk; have HC := Lib.hid hc; have HR := Lib.hid hR; have HAA := Lib.hid hAA
    have HLT := Lib.hid (show tlA n < M.L.length by rw [HL.out]; exact tlA_lt hn)
    have HN := Lib.hid hn
    have hlen : ∀ W, MemAt W a v M → Calls Try.prog 57 #[.pointer (some ⟨a, 0, none⟩)] W fun e w' => e = .returned (.int .i64 48) ∧ W = w' := fun W h => by
      have h' := mlen_any a v M W h
      rw [HL.out] at h'
      exact h'
    have HLEN := Lib.hid hlen
    have hg : decide (A < 0) = false := decide_eq_false (by omega)
    clear hlk hc hR hAA hl hn hlen hA0
    obtain ⟨m0, m1, m2, m3, m4⟩ := hB
    go_enter Try.func22, Try.ntmps22
    go_wp2_with fail
    (try rw [HBE.out])
    refine (lock_lit 2 2 4 0 2 n 0 A HLK.out _).mono ?_
    rintro e w1 ⟨rfl, hk1⟩
    clear m0 m1 m2 m3 m4
    go_wp2_with fail
    have hbd := HB.out.keep (hk1.drew) (fun f => f)
    have had := HA.out.keep (hk1.drew) (fun f => f) (fun _ _ f => f)
    refine wp_region_held_drew (S := (fun w' => (w'.cell? ⟨B, 0, none⟩ = some (.int .i64 2) ∧ w'.cell? ⟨B, 1, none⟩ = some (.int .i64 2) ∧ w'.cell? ⟨B, 2, none⟩ = some (.int .i64 4) ∧ w'.cell? ⟨B, 3, none⟩ = some (.int .i64 0) ∧ w'.cell? ⟨B, 4, none⟩ = some (.int .i64 2)))) (by kernel_rfl) (map5 hbd) (fun hHeld => ?_)
    refine wpAnyH_take (i := 0) (v := ?_) (by simp only [List.getElem?_toArray, List.getElem?_cons_succ, List.getElem?_cons_zero]; rfl) (by kernel_rfl) (by kernel_rfl) (by kernel_rfl) (by exact fun _ _ _ h => h) (Or.inl ⟨by rfl, ?_⟩) hHeld ?_
    rotate_left
    · intro w hSw; (try dsimp only at hSw); go_simp; (try with_reducible rfl)
    try simp only [Act.put, List.setIfInBounds_toArray, List.set_cons_zero, List.set_cons_succ]
    refine wpAnyH_take (i := 1) (v := ?_) (by simp only [List.getElem?_toArray, List.getElem?_cons_succ, List.getElem?_cons_zero]; rfl) (by kernel_rfl) (by kernel_rfl) (by kernel_rfl) (by exact fun _ _ _ h => h) (Or.inl ⟨by rfl, ?_⟩) hHeld ?_
    rotate_left
    · intro w hSw; (try dsimp only at hSw); go_simp; (try with_reducible rfl)
    try simp only [Act.put, List.setIfInBounds_toArray, List.set_cons_zero, List.set_cons_succ]
    refine wpAnyH_take (i := 2) (v := ?_) (by simp only [List.getElem?_toArray, List.getElem?_cons_succ, List.getElem?_cons_zero]; rfl) (by kernel_rfl) (by kernel_rfl) (by kernel_rfl) (by exact fun _ _ _ h => h) (Or.inl ⟨by rfl, ?_⟩) hHeld ?_
    rotate_left
    · intro w hSw; (try dsimp only at hSw); go_simp; (try with_reducible rfl)
    try simp only [Act.put, List.setIfInBounds_toArray, List.set_cons_zero, List.set_cons_succ]
    refine wpAnyH_take (i := 3) (v := ?_) (by simp only [List.getElem?_toArray, List.getElem?_cons_succ, List.getElem?_cons_zero]; rfl) (by kernel_rfl) (by kernel_rfl) (by kernel_rfl) (by exact fun _ _ _ h => h) (Or.inl ⟨by rfl, ?_⟩) hHeld ?_
    rotate_left
    · intro w hSw; (try dsimp only at hSw); go_simp; (try with_reducible rfl)
    try simp only [Act.put, List.setIfInBounds_toArray, List.set_cons_zero, List.set_cons_succ]
    refine wpAnyH_take (i := 5) (v := ?_) (by simp only [List.getElem?_toArray, List.getElem?_cons_succ, List.getElem?_cons_zero]; rfl) (by kernel_rfl) (by kernel_rfl) (by kernel_rfl) (by exact fun _ _ _ h => h) (Or.inl ⟨by rfl, ?_⟩) hHeld ?_
    rotate_left
    · intro w hSw; (try dsimp only at hSw); go_simp; (try with_reducible rfl)
    try simp only [Act.put, List.setIfInBounds_toArray, List.set_cons_zero, List.set_cons_succ]
    refine wpAnyH_ready (rs := [4]) (by kernel_rfl) (by simp) ?_
    refine AllReadyH.cons (by simp only [List.getElem?_toArray, List.getElem?_cons_succ, List.getElem?_cons_zero]; rfl) (fun kC hkC => ?_) AllReadyH.nil
    go_simp
    refine (HLEN.out _ had).mono ?_; rintro e w2 ⟨rfl, rfl⟩
    (try go_wp2_with fail)
    refine hkC.out _ _ (map5 hbd) (fun hHeld => ?_)
    clear hkC kC
    try simp only [Act.put, List.setIfInBounds_toArray, List.set_cons_zero, List.set_cons_succ]
    refine wpAnyH_ready (rs := [6]) (by kernel_rfl) (by simp) ?_
    refine AllReadyH.cons (by simp only [List.getElem?_toArray, List.getElem?_cons_succ, List.getElem?_cons_zero]; rfl) (fun kC hkC => ?_) AllReadyH.nil
    go_simp
    refine (size_lit 2 2 4 0 2 48 size8m _).mono ?_; rintro e w3 ⟨rfl, hk3⟩; have hb3 := hbd.keep hk3 (fun f => f); have ha3 := had.keep hk3 (fun f => f) (fun _ _ f => f)
    (try go_wp2_with fail)
    refine hkC.out _ _ (map5 hb3) (fun hHeld => ?_)
    clear hkC kC
    try simp only [Act.put, List.setIfInBounds_toArray, List.set_cons_zero, List.set_cons_succ]
    refine wpAnyH_take (i := 7) (v := ?_) (by simp only [List.getElem?_toArray, List.getElem?_cons_succ, List.getElem?_cons_zero]; rfl) (by kernel_rfl) (by kernel_rfl) (by kernel_rfl) (by exact fun _ _ _ h => h) (Or.inl ⟨by rfl, ?_⟩) hHeld ?_
    rotate_left
    · intro w hSw; (try dsimp only at hSw); go_simp; (try with_reducible rfl)
    try simp only [Act.put, List.setIfInBounds_toArray, List.set_cons_zero, List.set_cons_succ]
    refine wpAnyH_take (i := 8) (v := ?_) (by simp only [List.getElem?_toArray, List.getElem?_cons_succ, List.getElem?_cons_zero]; rfl) (by kernel_rfl) (by kernel_rfl) (by kernel_rfl) (by exact fun _ _ _ h => h) (Or.inl ⟨by rfl, ?_⟩) hHeld ?_
    rotate_left
    · intro w hSw; (try dsimp only at hSw); go_simp; (try with_reducible rfl)
    try simp only [Act.put, List.setIfInBounds_toArray, List.set_cons_zero, List.set_cons_succ]
    refine wpAnyH_done (by kernel_rfl) ?_ _
    go_wp2_with fail
    have hb4 := hb3.keep ((Keeps.refl NoS w3).drew) (fun f => f)
    have ha4 := ha3.keep ((Keeps.refl NoS w3).drew) (fun f => f) (fun _ _ f => f)
    refine wp_region_held_drew (S := (fun w' => (w'.cell? ⟨B, 0, none⟩ = some (.int .i64 2) ∧ w'.cell? ⟨B, 1, none⟩ = some (.int .i64 2) ∧ w'.cell? ⟨B, 2, none⟩ = some (.int .i64 4) ∧ w'.cell? ⟨B, 3, none⟩ = some (.int .i64 0) ∧ w'.cell? ⟨B, 4, none⟩ = some (.int .i64 2)))) (by kernel_rfl) (map5 hb4) (fun hHeld => ?_)
    refine wpAnyH_take (i := 0) (v := ?_) (by simp only [List.getElem?_toArray, List.getElem?_cons_succ, List.getElem?_cons_zero]; rfl) (by kernel_rfl) (by kernel_rfl) (by kernel_rfl) (by exact fun _ _ _ h => h) (Or.inl ⟨by rfl, ?_⟩) hHeld ?_
    rotate_left
    · intro w hSw; (try dsimp only at hSw); go_simp; (try with_reducible rfl)
    try simp only [Act.put, List.setIfInBounds_toArray, List.set_cons_zero, List.set_cons_succ]
    refine wpAnyH_take (i := 1) (v := ?_) (by simp only [List.getElem?_toArray, List.getElem?_cons_succ, List.getElem?_cons_zero]; rfl) (by kernel_rfl) (by kernel_rfl) (by kernel_rfl) (by exact fun _ _ _ h => h) (Or.inl ⟨by rfl, ?_⟩) hHeld ?_
    rotate_left
    · intro w hSw; (try dsimp only at hSw); go_simp; (try with_reducible rfl)
    try simp only [Act.put, List.setIfInBounds_toArray, List.set_cons_zero, List.set_cons_succ]
    refine wpAnyH_take (i := 2) (v := ?_) (by simp only [List.getElem?_toArray, List.getElem?_cons_succ, List.getElem?_cons_zero]; rfl) (by kernel_rfl) (by kernel_rfl) (by kernel_rfl) (by exact fun _ _ _ h => h) (Or.inl ⟨by rfl, ?_⟩) hHeld ?_
    rotate_left
    · intro w hSw; (try dsimp only at hSw); go_simp; (try with_reducible rfl)
    try simp only [Act.put, List.setIfInBounds_toArray, List.set_cons_zero, List.set_cons_succ]
    refine wpAnyH_take (i := 4) (v := ?_) (by simp only [List.getElem?_toArray, List.getElem?_cons_succ, List.getElem?_cons_zero]; rfl) (by kernel_rfl) (by kernel_rfl) (by kernel_rfl) (by exact fun _ _ _ h => h) (Or.inl ⟨by rfl, ?_⟩) hHeld ?_
    rotate_left
    · intro w hSw; (try dsimp only at hSw); go_simp; (try with_reducible rfl)
    try simp only [Act.put, List.setIfInBounds_toArray, List.set_cons_zero, List.set_cons_succ]
    refine wpAnyH_ready (rs := [3]) (by kernel_rfl) (by simp) ?_
    refine AllReadyH.cons (by simp only [List.getElem?_toArray, List.getElem?_cons_succ, List.getElem?_cons_zero]; rfl) (fun kC hkC => ?_) AllReadyH.nil
    go_simp
    rw [← HAA.out]; refine (peek_at a v M (tlA n) _ ha4 HLT.out).mono ?_; rw [HC.out]; rintro e w5 ⟨rfl, rfl⟩
    (try go_wp2_with fail)
    refine hkC.out _ _ (map5 hb4) (fun hHeld => ?_)
    clear hkC kC
    try simp only [Act.put, List.setIfInBounds_toArray, List.set_cons_zero, List.set_cons_succ]
    refine wpAnyH_ready (rs := [5]) (by kernel_rfl) (by simp) ?_
    refine AllReadyH.cons (by simp only [List.getElem?_toArray, List.getElem?_cons_succ, List.getElem?_cons_zero]; rfl) (fun kC hkC => ?_) AllReadyH.nil
    go_simp
    refine (thread8_any n c HN.out _).mono ?_; rw [HR.out]; rintro e w6 ⟨rfl, hk6⟩; have hb6 := hb4.keep hk6 (fun f => f)
    (try go_wp2_with fail)
    refine hkC.out _ _ (map5 hb6) (fun hHeld => ?_)
    clear hkC kC
    try simp only [Act.put, List.setIfInBounds_toArray, List.set_cons_zero, List.set_cons_succ]
    refine wpAnyH_take (i := 6) (v := ?_) (by simp only [List.getElem?_toArray, List.getElem?_cons_succ, List.getElem?_cons_zero]; rfl) (by kernel_rfl) (by kernel_rfl) (by kernel_rfl) (by exact fun _ _ _ h => h) (Or.inl ⟨by rfl, ?_⟩) hHeld ?_
    rotate_left
    · intro w hSw; (try dsimp only at hSw); go_simp; (try with_reducible rfl)
    try simp only [Act.put, List.setIfInBounds_toArray, List.set_cons_zero, List.set_cons_succ]
    refine wpAnyH_done (by kernel_rfl) ?_ _
    go_wp2_with fail
    go_ret
    exact ⟨rfl, (((HK0.out.trans hk1.drew).trans hk3).trans (Keeps.refl NoS w3).drew).trans hk6⟩
  · rw [show lastI M l = -1 by unfold lastI; rw [if_neg hl]]
    have HLK := Lib.hid (lockP_no hl)
    clear hl
    obtain ⟨m0, m1, m2, m3, m4⟩ := hB
    go_enter Try.func22, Try.ntmps22
    go_wp2_with fail
    (try rw [HBE.out])
    refine (lock_lit 2 2 4 0 2 l 0 (-1) HLK.out _).mono ?_
    rintro e w1 ⟨rfl, hk1⟩
    clear m0 m1 m2 m3 m4
    go_wp2_with fail
    have hbd := HB.out.keep (hk1.drew) (fun f => f)
    refine wp_region_held_drew (S := (fun w' => (w'.cell? ⟨B, 0, none⟩ = some (.int .i64 2) ∧ w'.cell? ⟨B, 1, none⟩ = some (.int .i64 2) ∧ w'.cell? ⟨B, 2, none⟩ = some (.int .i64 4) ∧ w'.cell? ⟨B, 3, none⟩ = some (.int .i64 0) ∧ w'.cell? ⟨B, 4, none⟩ = some (.int .i64 2)))) (by kernel_rfl) (map5 hbd) (fun hHeld => ?_)
    refine wpAnyH_take (i := 0) (v := ?_) (by simp only [List.getElem?_toArray, List.getElem?_cons_succ, List.getElem?_cons_zero]; rfl) (by kernel_rfl) (by kernel_rfl) (by kernel_rfl) (by exact fun _ _ _ h => h) (Or.inl ⟨by rfl, ?_⟩) hHeld ?_
    rotate_left
    · intro w hSw; (try dsimp only at hSw); go_simp; (try with_reducible rfl)
    try simp only [Act.put, List.setIfInBounds_toArray, List.set_cons_zero, List.set_cons_succ]
    refine wpAnyH_take (i := 1) (v := ?_) (by simp only [List.getElem?_toArray, List.getElem?_cons_succ, List.getElem?_cons_zero]; rfl) (by kernel_rfl) (by kernel_rfl) (by kernel_rfl) (by exact fun _ _ _ h => h) (Or.inl ⟨by rfl, ?_⟩) hHeld ?_
    rotate_left
    · intro w hSw; (try dsimp only at hSw); go_simp; (try with_reducible rfl)
    try simp only [Act.put, List.setIfInBounds_toArray, List.set_cons_zero, List.set_cons_succ]
    refine wpAnyH_take (i := 2) (v := ?_) (by simp only [List.getElem?_toArray, List.getElem?_cons_succ, List.getElem?_cons_zero]; rfl) (by kernel_rfl) (by kernel_rfl) (by kernel_rfl) (by exact fun _ _ _ h => h) (Or.inl ⟨by rfl, ?_⟩) hHeld ?_
    rotate_left
    · intro w hSw; (try dsimp only at hSw); go_simp; (try with_reducible rfl)
    try simp only [Act.put, List.setIfInBounds_toArray, List.set_cons_zero, List.set_cons_succ]
    refine wpAnyH_take (i := 3) (v := undef) (by simp only [List.getElem?_toArray, List.getElem?_cons_succ, List.getElem?_cons_zero]; rfl) (by kernel_rfl) (by kernel_rfl) (by kernel_rfl) (by exact fun _ _ _ h => h) (Or.inr ⟨by rfl, rfl⟩) hHeld ?_
    try simp only [Act.put, List.setIfInBounds_toArray, List.set_cons_zero, List.set_cons_succ]
    refine wpAnyH_take (i := 4) (v := undef) (by simp only [List.getElem?_toArray, List.getElem?_cons_succ, List.getElem?_cons_zero]; rfl) (by kernel_rfl) (by kernel_rfl) (by kernel_rfl) (by exact fun _ _ _ h => h) (Or.inr ⟨by rfl, rfl⟩) hHeld ?_
    try simp only [Act.put, List.setIfInBounds_toArray, List.set_cons_zero, List.set_cons_succ]
    refine wpAnyH_take (i := 5) (v := undef) (by simp only [List.getElem?_toArray, List.getElem?_cons_succ, List.getElem?_cons_zero]; rfl) (by kernel_rfl) (by kernel_rfl) (by kernel_rfl) (by exact fun _ _ _ h => h) (Or.inr ⟨by rfl, rfl⟩) hHeld ?_
    try simp only [Act.put, List.setIfInBounds_toArray, List.set_cons_zero, List.set_cons_succ]
    refine wpAnyH_take (i := 6) (v := undef) (by simp only [List.getElem?_toArray, List.getElem?_cons_succ, List.getElem?_cons_zero]; rfl) (by kernel_rfl) (by kernel_rfl) (by kernel_rfl) (by exact fun _ _ _ h => h) (Or.inr ⟨by rfl, rfl⟩) hHeld ?_
    try simp only [Act.put, List.setIfInBounds_toArray, List.set_cons_zero, List.set_cons_succ]
    refine wpAnyH_take (i := 7) (v := undef) (by simp only [List.getElem?_toArray, List.getElem?_cons_succ, List.getElem?_cons_zero]; rfl) (by kernel_rfl) (by kernel_rfl) (by kernel_rfl) (by exact fun _ _ _ h => h) (Or.inr ⟨by rfl, rfl⟩) hHeld ?_
    try simp only [Act.put, List.setIfInBounds_toArray, List.set_cons_zero, List.set_cons_succ]
    refine wpAnyH_take (i := 8) (v := ?_) (by simp only [List.getElem?_toArray, List.getElem?_cons_succ, List.getElem?_cons_zero]; rfl) (by kernel_rfl) (by kernel_rfl) (by kernel_rfl) (by exact fun _ _ _ h => h) (Or.inl ⟨by rfl, ?_⟩) hHeld ?_
    rotate_left
    · intro w hSw; (try dsimp only at hSw); go_simp; (try with_reducible rfl)
    try simp only [Act.put, List.setIfInBounds_toArray, List.set_cons_zero, List.set_cons_succ]
    refine wpAnyH_done (by kernel_rfl) ?_ _
    go_wp2_with fail
    go_ret
    exact ⟨rfl, HK0.out.trans hk1.drew⟩
set_option maxHeartbeats 4000000 in
set_option maxRecDepth 100000 in
theorem rlast8_any (l : Int) (a : Nat) (v : Value) (M : MemS) (w : World) (hA : RefAt w a v M) (hl48 : M.L.length = 48) : Calls Try.prog 38 #[.agg #[.int .i64 2, .int .i64 2, .int .i64 4, .int .i64 0, .int .i64 2], .pointer (some ⟨a, 0, none⟩), .int .i64 l] w fun e w' => e = .returned (.int .i64 (lastI M l)) ∧ Keeps NoS w w' := by
  have hB := mapAt_new w 2 2 4 0 2 54
  have hk0 := (Keeps.refl NoS w).alloc (.cells #[.int .i64 2, .int .i64 2, .int .i64 4, .int .i64 0, .int .i64 2] 54)
  have hA' := hA.keep hk0 (fun f => f) (fun _ _ f => f)
  obtain ⟨R, hR⟩ : ∃ R, lastI M l = R := ⟨_, rfl⟩
  rw [hR]
  have HR := Lib.hid hR; have HK0 := Lib.hid hk0; have HL := Lib.hid hl48
  clear hR hl48 hA
  go_enter Try.func38, Try.ntmps38
  go_wp2_with fail
  obtain ⟨B, hBe⟩ : ∃ B, w.heap.size = B := ⟨_, rfl⟩
  rw [hBe] at hB
  (try rw [hBe])
  clear hBe hk0
  generalize w.alloc (.cells #[.int .i64 2, .int .i64 2, .int .i64 4, .int .i64 0, .int .i64 2] 54) = wa at *
  have HB := Lib.hid hB; have HA := Lib.hid hA'
  clear hB hA'
  by_cases hl : 0 ≤ l ∧ l < 2
  · obtain ⟨n, rfl⟩ := Int.eq_ofNat_of_zero_le hl.1
    have hn : n < 2 := by omega
    rw [show lastI M n = thI n (M.word (tlA n)) by unfold lastI; rw [if_pos hl, Int.toNat_natCast]] at HR
    obtain ⟨c, hc⟩ : ∃ c, M.word (tlA n) = c := ⟨_, rfl⟩
    rw [hc] at HR
    obtain ⟨A, hAA⟩ : ∃ A : Int, ((tlA n : Nat) : Int) = A := ⟨_, rfl⟩
    have hlk := tlA_eq hn
    rw [hAA] at hlk
    have HLK := Lib.hid hlk; have HC := Lib.hid hc; have HAA := Lib.hid hAA
    have HLT := Lib.hid (show tlA n < M.L.length by rw [HL.out]; exact tlA_lt hn)
    clear hlk hc hAA hl
    go_loopw [7] (fun tv wq => ∃ k : Nat, k ≤ 4 ∧ tv = .int .i64 k ∧ Keeps NoS wa wq ∧ ∀ j, j < k → idA j n ≠ c) (fun tv _ => 4 - (intOf tv).toNat)
    case atStart => exact ⟨0, by omega, rfl, Keeps.refl _ _, fun j hj => absurd hj (by omega)⟩
    case round =>
      obtain ⟨k, hk, rfl, hkw, hno⟩ := hrel
      obtain ⟨c0, c1, c2, c3, c4⟩ := HB.out.keep hkw (fun f => f)
      have HNO := Lib.hid hno; have HKW := Lib.hid hkw
      clear hno hkw
      by_cases hk4 : k < 4
      · have k0 : (0 : Int) ≤ (k : Int) := by omega
        have k1 : (k : Int) < 4 := by omega
        have hpos : 1 ≤ idA k n := by unfold idA; omega
        have HID := Lib.hid (fun W => rid8_any k n hk4 hn W)
        have hy0 : (idA k n != 0) = true := by
          have : idA k n ≠ 0 := by omega
          simpa using this
        by_cases he : idA k n = c
        · have hre : R = k := by rw [← HR.out]; unfold thI; rw [← he, thN_id hk4]
          have HRE := Lib.hid hre
          clear hre hpos
          subst he
          generalize idA k n = y at *
          go_wp2_with (first
            | (go_at_call 37; refine (HID.out _).mono ?_; rintro e w1 ⟨rfl, hk1⟩; obtain ⟨d0, d1, d2, d3, d4⟩ := (HB.out.keep HKW.out (fun f => f)).keep hk1 (fun f => f))
            | (go_at_call 28; refine (rlock_lit 2 2 4 0 2 n 0 A HLK.out _).mono ?_; rw [← HAA.out]; rintro e w2 ⟨rfl, hk2⟩)
            | (go_at_call 47; refine (rpeek_ok a v M (tlA n) _ (HA.out.keep ((HKW.out.trans hk1).trans hk2) (fun f => f) (fun _ _ f => f)) HLT.out).mono ?_; rw [HC.out]; rintro e w3 ⟨rfl, rfl⟩))
          go_ret
          exact ⟨by rw [HRE.out]; rfl, HK0.out.trans ((HKW.out.trans hk1).trans hk2)⟩
        · have hq : (idA k n == c) = false := by simpa using he
          have HE := Lib.hid he
          clear he hpos
          generalize hy : idA k n = y at *
          have HY := Lib.hid hy
          clear hy
          go_wp2_with (first
            | (go_at_call 37; refine (HID.out _).mono ?_; rintro e w1 ⟨rfl, hk1⟩; obtain ⟨d0, d1, d2, d3, d4⟩ := (HB.out.keep HKW.out (fun f => f)).keep hk1 (fun f => f))
            | (go_at_call 28; refine (rlock_lit 2 2 4 0 2 n 0 A HLK.out _).mono ?_; rw [← HAA.out]; rintro e w2 ⟨rfl, hk2⟩)
            | (go_at_call 47; refine (rpeek_ok a v M (tlA n) _ (HA.out.keep ((HKW.out.trans hk1).trans hk2) (fun f => f) (fun _ _ f => f)) HLT.out).mono ?_; rw [HC.out]; rintro e w3 ⟨rfl, rfl⟩))
          go_roundw
          case rel => exact ⟨k + 1, by omega, by go_num, (HKW.out.trans hk1).trans hk2, fun j hj => by
            by_cases e : j = k
            · rw [e, HY.out]; exact HE.out
            · exact HNO.out j (by omega)⟩
          case measure => simp [intOf]; omega
      · obtain rfl : k = 4 := by omega
        have hre : R = -1 := by rw [← HR.out]; unfold thI; rw [thN_none HNO.out]
        have HRE := Lib.hid hre
        clear hre
        go_wp2_with fail
        go_ret
        exact ⟨by rw [HRE.out]; rfl, HK0.out.trans HKW.out⟩
  · rw [show lastI M l = -1 by unfold lastI; rw [if_neg hl]] at HR
    have hid : ∀ (k : Nat) W, Calls Try.prog 37 #[.agg #[.int .i64 2, .int .i64 2, .int .i64 4, .int .i64 0, .int .i64 2], .int .i64 k, .int .i64 l] W fun e w' => e = .returned (.int .i64 0) ∧ Keeps NoS W w' := fun k W => by
      have h := rid_any k l W
      rw [id8_no (by rw [okH_eq]; simp; omega)] at h
      exact h
    have HID := Lib.hid hid
    clear hid hl
    go_loopw [7] (fun tv wq => ∃ k : Nat, k ≤ 4 ∧ tv = .int .i64 k ∧ Keeps NoS wa wq) (fun tv _ => 4 - (intOf tv).toNat)
    case atStart => exact ⟨0, by omega, rfl, Keeps.refl _ _⟩
    case round =>
      obtain ⟨k, hk, rfl, hkw⟩ := hrel
      obtain ⟨c0, c1, c2, c3, c4⟩ := HB.out.keep hkw (fun f => f)
      have HKW := Lib.hid hkw
      clear hkw
      by_cases hk4 : k < 4
      · have k0 : (0 : Int) ≤ (k : Int) := by omega
        have k1 : (k : Int) < 4 := by omega
        go_wp2_with (go_at_call 37; refine (HID.out _ _).mono ?_; rintro e w1 ⟨rfl, hk1⟩)
        go_roundw
        case rel => exact ⟨k + 1, by omega, by go_num, HKW.out.trans hk1⟩
        case measure => simp [intOf]; omega
      · obtain rfl : k = 4 := by omega
        go_wp2_with fail
        go_ret
        exact ⟨by rw [← HR.out]; rfl, HK0.out.trans HKW.out⟩
end Go.Proofs.Ytjchcmomppfilaa
