/- Who comes first has it first (the walk). -/
import Derived.Test.YtodaiogefgdcpaaOrderS
namespace Go.Proofs.Ytodaiogefgdcpaa
open Go.RowKit
theorem infoI : (Try.prog.info? 3).map (fun i => (i.zero, i.size, i.bytes)) = some (some (.int .i64 0), 1, 8) := by kernel_rfl
theorem intT : ∃ i, IntT 3 22 i := by
  obtain ⟨i, h1, h2, h3, h4⟩ := info_parts infoI
  exact ⟨i, by kernel_rfl, h1, h2, h3, h4⟩
theorem pickn (y : Int) (n : Nat) (h : 0 < n) (hn : n ≤ 4) : ∃ k : Nat, k < n ∧ (IntKind.u64.wrap y).tmod (n : Int) = (k : Int) := by
  obtain ⟨h1, h2⟩ := u64_tmod_bd y n (by omega)
  exact ⟨((IntKind.u64.wrap y).tmod n).toNat, by omega, by omega⟩
theorem odS_new {W w2 : World} {a c : Nat} {v u : Value} {G : Nat} (hG : w2.heap.size = G) (hT : TwoR W w2 a c v u (M0 48) (M0 48)) :
    ∃ w3, (w2.alloc (.cells #[.int .i64 0, .int .i64 1, .int .i64 2, .int .i64 3] 3)).alloc (.cells #[.int .i64 0, .int .i64 0, .int .i64 0, .bool false, .int .i64 0, .int .i64 0, .int .i64 0, .int .i64 0, .bool false, .int .i64 0, .int .i64 0, .int .i64 0, .int .i64 0, .bool false, .int .i64 0, .int .i64 0, .int .i64 0, .int .i64 0, .bool false, .int .i64 0] 38) = w3 ∧ OdS W w3 a c v u (M0 48) (G + 1) (comeF []) ∧ Apart W G a c v u ∧ RowI 3 w3 G (.slice (some ⟨G, 0, none⟩) 4 4) (natsI [0, 1, 2, 3]) := by
  subst hG
  refine ⟨_, rfl, ⟨hT.keep (((Keeps.refl NoS w2).alloc _).alloc _), ?_⟩, hT.apart, ?_⟩
  · have h := handsAt_new (w2.alloc (.cells #[.int .i64 0, .int .i64 1, .int .i64 2, .int .i64 3] 3)) 38
    exact (by simpa using h : HandsAt 4 _ (w2.heap.size + 1) (fun _ => hand0)).congr (fun t _ => by simp [comeF])
  · refine ⟨?_, fun g hg => by simp [Value.ownBlock] at hg; omega⟩
    have h1 : (w2.alloc (.cells #[.int .i64 0, .int .i64 1, .int .i64 2, .int .i64 3] 3)).heap[w2.heap.size]? = some _ := heap_alloc_new _ _
    have h2 : ((w2.alloc (.cells #[.int .i64 0, .int .i64 1, .int .i64 2, .int .i64 3] 3)).alloc (.cells #[.int .i64 0, .int .i64 0, .int .i64 0, .bool false, .int .i64 0, .int .i64 0, .int .i64 0, .int .i64 0, .bool false, .int .i64 0, .int .i64 0, .int .i64 0, .int .i64 0, .bool false, .int .i64 0, .int .i64 0, .int .i64 0, .int .i64 0, .bool false, .int .i64 0] 38)).heap[w2.heap.size]? = some (.cells #[.int .i64 0, .int .i64 1, .int .i64 2, .int .i64 3] 3 (0, 0)) := by
      rw [Below.heap_alloc _ _ _ (by simp)]; exact h1
    exact ⟨rfl, .inr ⟨w2.heap.size, 4, _, rfl, Nat.zero_le _, h2, Nat.le_refl _, by decide, rfl, rfl⟩⟩
set_option maxHeartbeats 40000000 in
set_option maxRecDepth 100000 in
theorem ticketOrder_walk (w : World) (a0 : Int) (w0 : (Lit.int .i64 a0).wf = true) (p1 : Value) (L : List Int) (f0 : InI w p1 L) (_f1 : ∀ k, k < L.length → (Lit.int .i64 (L.getD k 0)).wf = true) : Calls Try.prog 4 #[.int .i64 a0, p1] w fun e w' => e = .returned (.bool true) ∧ Keeps NoS w w' := by
  obtain ⟨p, cap, rfl, hn, hc, _⟩ := f0
  have HW := Lib.hid hc
  clear hc _f1 w0
  by_cases h200 : L.length ≤ 200
  case neg =>
    go_enter Try.func4, Try.ntmps4
    have h200' : (200 : Int) < (L.length : Int) := by omega
    go_wp2_with (go_at_call 14; refine (told8_any _).mono ?_; rintro e w1 ⟨rfl, hk1⟩)
    go_ret
    exact ⟨rfl, hk1⟩
  obtain ⟨iT, hIT⟩ := intT
  have HIT := Lib.hid hIT
  clear hIT
  go_enter Try.func4, Try.ntmps4
  go_wp2_with (first
    | (go_at_call 15; refine (map8_any _).mono ?_; rintro e w1 ⟨rfl, hk1⟩))
  have hB := mapAt_new w1 2 2 4 0 2 25
  have hk1' := hk1.alloc (.cells #[.int .i64 2, .int .i64 2, .int .i64 4, .int .i64 0, .int .i64 2] 25)
  obtain ⟨B, hBe⟩ : ∃ B, w1.heap.size = B := ⟨_, rfl⟩
  have hBl : B < (w1.alloc (.cells #[.int .i64 2, .int .i64 2, .int .i64 4, .int .i64 0, .int .i64 2] 25)).heap.size := by rw [← hBe]; simp
  rw [hBe] at hB
  rw [hBe]
  generalize w1.alloc (.cells #[.int .i64 2, .int .i64 2, .int .i64 4, .int .i64 0, .int .i64 2] 25) = W at *
  refine (both_any 2 2 4 0 2 48 m8_size (by decide) (by decide) W).mono ?_
  rintro e w2 ⟨a, c, v, u, rfl, hT⟩
  have HBm := Lib.hid (fun w' (h : Keeps NoS W w') => mapCs (hB.keep h (fun f => f)))
  obtain ⟨G, hG⟩ : ∃ G, w2.heap.size = G := ⟨_, rfl⟩
  obtain ⟨w3, hw3, hr, hA, hf⟩ := odS_new hG hT
  have HR := Lib.hid hr; have HA := Lib.hid hA; have HW3 := Lib.hid hw3; have HF := Lib.hid hf
  have HWk := Lib.hid hk1'
  have hWB : W.heap.size ≤ G := hA.w
  clear hBe hk1 hk1' hr hA hT hB hw3 hf
  go_wp2_with fail
  rw [HW3.out]
  (try rw [hG])
  clear hG HW3
  obtain ⟨H, hH⟩ : ∃ H, G + 1 = H := ⟨_, rfl⟩
  rw [hH] at HR
  (try rw [hH])
  have hGH : G < H := by omega
  clear hH
  go_loopw [8, 9, 12] (fun fv cv xv wq => ∃ (free came : List Nat) (M : MemS) (y : Int), xv = .int .u64 (IntKind.u64.wrap y) ∧ ComeI free came M ∧ OdS W wq a c v u M H (comeF came) ∧ (∃ p n cap, n = free.length ∧ fv = .slice p n cap) ∧ RowI 3 wq G fv (natsI free) ∧ (∃ p n cap, n = came.length ∧ cv = .slice p n cap) ∧ RowI 3 wq (H + 1) cv (natsI came) ∧ ∀ g, fv.ownBlock = some g → g ≠ H ∧ cv.ownBlock ≠ some g) (fun fv _ _ _ => lenV fv)
  case atStart => exact ⟨[0, 1, 2, 3], [], _, a0, rfl, ComeI.start, HR.out, ⟨_, _, _, rfl, rfl⟩, HF.out, ⟨none, 0, 0, rfl, rfl⟩, RowI.nil _ _ _, fun g hg => by simp [Value.ownBlock] at hg ⊢; omega⟩
  case round =>
    obtain ⟨free, came, M, y, rfl, hci, hod, ⟨pf, n, capf, hn1, rfl⟩, hrf, ⟨pc, nc, capc, hnc, rfl⟩, hrc, hap⟩ := hrel
    have HC := Lib.hid hci; have HX := Lib.hid hod; have HRF := Lib.hid hrf; have HRC := Lib.hid hrc; have HAP := Lib.hid hap; have HN := Lib.hid hn1; have HNC := Lib.hid hnc
    have hlc := hci.lc
    have hn4 : n + nc = 4 := by omega
    clear hci hod hrf hrc hap hn1 hnc hlc HR HF
    by_cases hlt : 0 < n
    · obtain ⟨k, hkn, hk⟩ := pickn y n hlt (by omega)
      obtain ⟨g, cp, hfe, hg1, hg2, hg3, hg4, hg5⟩ := HRF.out.form (by rw [natsI_len, ← HN.out]; exact hlt)
      simp only [Value.slice.injEq] at hfe
      obtain ⟨rfl, hnn, rfl⟩ := hfe
      clear hnn
      obtain ⟨t, ht⟩ : ∃ t, free.getD k 0 = t := ⟨_, rfl⟩
      have c5 := hg5 k (by rw [natsI_len, ← HN.out]; exact hkn)
      rw [natsI_get, ht] at c5
      have ht4 : t < 4 := ht ▸ HC.out.lt _ (getD_mem (HN.out ▸ hkn))
      rw [natsI_len, ← HN.out] at hg3
      have q1 : (0 : Int) ≤ (k : Int) := by omega
      have q2 : (k : Int) < (n : Int) := by omega
      have q3 : (k : Int) ≤ (capf : Int) := by omega
      have q4 : (0 : Int) ≤ (k : Int) + 1 := by omega
      have q5 : (k : Int) + 1 ≤ (n : Int) := by omega
      have q6 : (n : Int) ≤ 4 := by omega
      have q7 : (n : Int) ≤ (capf : Int) := by omega
      have HK := Lib.hid ht; have H5 := Lib.hid hg5
      clear hg5 ht
      go_wp2_with fail
      obtain ⟨k1, hk1⟩ : ∃ k1 : Nat, k1 = k + 1 := ⟨_, rfl⟩
      have qk : IntKind.i64.wrap ((k : Int) + 1) = (k1 : Int) := by rw [hk1, IntWalk.i64_in _ (by omega)]; omega
      obtain ⟨off, hoff, ho⟩ : ∃ off, ((if capf = k1 then some ⟨g, 0, none⟩ else some ⟨g, k1, none⟩ : Option Addr) = some ⟨g, off, none⟩) ∧ (k1 < n → off = k1) := by
        by_cases e : capf = k1
        · exact ⟨0, if_pos e, fun h => by omega⟩
        · exact ⟨k1, if_neg e, fun _ => rfl⟩
      have q8 : (0 : Int) ≤ (k1 : Int) := by omega
      have q9 : (k1 : Int) ≤ (n : Int) := by omega
      have hs1 : H + 1 ≤ wr.heap.size := HX.out.x.lt
      obtain ⟨wE, hwE⟩ : ∃ wE, (wr.alloc (.cells #[] 3)).drew = wE := ⟨_, rfl⟩
      have hEz : wE.heap.size = wr.heap.size + 1 := by rw [← hwE]; simp
      have hkE : Keeps NoS wr wE := by rw [← hwE]; exact ((Keeps.refl NoS wr).alloc _).drew
      have hE0 : RowI 3 wE (H + 1) (.slice (some ⟨wr.heap.size, 0, none⟩) 0 0) [] := by rw [← hwE]; exact RowI.empty (by omega)
      have hcE : ∀ j, j < n → wE.cell? ⟨g, j, none⟩ = some (.int .i64 ((natsI free).getD j 0)) := fun j hj => hkE.cell (H5.out j (by rw [natsI_len, ← HN.out]; exact hj)) (fun f => f)
      have hn1 := sub_cells (k := 0) (m := k) (off := 0) hcE (by omega) (fun _ => rfl)
      have hn2 : ∀ j, j < k → wE.cell? ((⟨g, 0, none⟩ : Addr).add j) = some (.int .i64 ((natsI (free.take k)).getD j 0)) := by simpa using hn1
      have HE0 := Lib.hid hE0; have HN1 := Lib.hid hn2; have HK1 := Lib.hid hk1; have HOF := Lib.hid ho; have HCE := Lib.hid hcE; have HWE := Lib.hid hwE; have HKE := Lib.hid hkE
      clear hE0 hn1 hn2 hk1 ho hcE hwE hkE
      refine wp_region_held_drew (S := (fun _ => True)) (by kernel_rfl) (trivial) (fun hHeld => ?_)
      refine wpAnyH_take (i := 1) (v := ?_) (by simp only [List.getElem?_toArray, List.getElem?_cons_succ, List.getElem?_cons_zero]; rfl) (by kernel_rfl) (by kernel_rfl) (by kernel_rfl) (by exact fun _ _ _ h => h) (Or.inl ⟨by rfl, ?_⟩) hHeld ?_
      rotate_left
      · intro w hSw; (try dsimp only at hSw); go_simp; (try with_reducible rfl)
      try simp only [Act.put, List.setIfInBounds_toArray, List.set_cons_zero, List.set_cons_succ]
      refine wpAnyH_take (i := 2) (v := ?_) (by simp only [List.getElem?_toArray, List.getElem?_cons_succ, List.getElem?_cons_zero]; rfl) (by kernel_rfl) (by kernel_rfl) (by kernel_rfl) (by exact fun _ _ _ h => h) (Or.inl ⟨by rfl, ?_⟩) hHeld ?_
      rotate_left
      · intro w hSw; (try dsimp only at hSw); go_simp; (try with_reducible rfl)
      try simp only [Act.put, List.setIfInBounds_toArray, List.set_cons_zero, List.set_cons_succ]
      refine wpAnyH_take (i := 3) (v := ?_) (by simp only [List.getElem?_toArray, List.getElem?_cons_succ, List.getElem?_cons_zero]; rfl) (by kernel_rfl) (by kernel_rfl) (by kernel_rfl) (by exact fun _ _ _ h => h) (Or.inl ⟨by rfl, ?_⟩) hHeld ?_
      rotate_left
      · intro w hSw; (try dsimp only at hSw); go_simp; (try with_reducible rfl)
      try simp only [Act.put, List.setIfInBounds_toArray, List.set_cons_zero, List.set_cons_succ]
      refine wpAnyH_take (i := 5) (v := ?_) (by simp only [List.getElem?_toArray, List.getElem?_cons_succ, List.getElem?_cons_zero]; rfl) (by kernel_rfl) (by kernel_rfl) (by kernel_rfl) (by exact fun _ _ _ h => h) (Or.inl ⟨by rfl, ?_⟩) hHeld ?_
      rotate_left
      · intro w hSw; (try dsimp only at hSw); go_simp; (try with_reducible rfl)
      try simp only [Act.put, List.setIfInBounds_toArray, List.set_cons_zero, List.set_cons_succ]
      refine wpAnyH_take (i := 6) (v := ?_) (by simp only [List.getElem?_toArray, List.getElem?_cons_succ, List.getElem?_cons_zero]; rfl) (by kernel_rfl) (by kernel_rfl) (by kernel_rfl) (by exact fun _ _ _ h => h) (Or.inl ⟨by rfl, ?_⟩) hHeld ?_
      rotate_left
      · intro w hSw; (try dsimp only at hSw); go_simp; (try with_reducible rfl)
      try simp only [Act.put, List.setIfInBounds_toArray, List.set_cons_zero, List.set_cons_succ]
      refine wpAnyH_take (i := 7) (v := ?_) (by simp only [List.getElem?_toArray, List.getElem?_cons_succ, List.getElem?_cons_zero]; rfl) (by kernel_rfl) (by kernel_rfl) (by kernel_rfl) (by exact fun _ _ _ h => h) (Or.inl ⟨by rfl, ?_⟩) hHeld ?_
      rotate_left
      · intro w hSw; (try dsimp only at hSw); go_simp; (try with_reducible rfl)
      try simp only [Act.put, List.setIfInBounds_toArray, List.set_cons_zero, List.set_cons_succ]
      refine wpAnyH_take (i := 8) (v := ?_) (by simp only [List.getElem?_toArray, List.getElem?_cons_succ, List.getElem?_cons_zero]; rfl) (by kernel_rfl) (by kernel_rfl) (by kernel_rfl) (by exact fun _ _ _ h => h) (Or.inl ⟨by rfl, ?_⟩) hHeld ?_
      rotate_left
      · intro w hSw; (try dsimp only at hSw); go_simp; (try with_reducible rfl)
      try simp only [Act.put, List.setIfInBounds_toArray, List.set_cons_zero, List.set_cons_succ]
      refine wpAnyH_ready (rs := [0]) (by kernel_rfl) (by simp) ?_
      refine AllReadyH.cons (by simp only [List.getElem?_toArray, List.getElem?_cons_succ, List.getElem?_cons_zero]; rfl) (fun kC hkC => ?_) AllReadyH.nil
      go_simp
      rw [HWE.out]
      refine hkC.out _ _ (trivial) (fun hHeld => ?_)
      clear hkC kC
      try simp only [Act.put, List.setIfInBounds_toArray, List.set_cons_zero, List.set_cons_succ]
      refine wpAnyH_ready (rs := [4]) (by kernel_rfl) (by simp) ?_
      refine AllReadyH.cons (by simp only [List.getElem?_toArray, List.getElem?_cons_succ, List.getElem?_cons_zero]; rfl) (fun kC hkC => ?_) AllReadyH.nil
      (refine step_row HIT.out _ (by rfl) (.tmp 49) (.tmp 52) (by rfl) (H + 1) _ [] (by rfl) HE0.out ⟨g, 0, none⟩ k _ (natsI (free.take k)) (by rfl) (by rw [natsI_len, List.length_take, ← HN.out]; omega) HN1.out (by simp; omega) (by omega) ?_; intro v1 w5 hr1 hg1 hb1; rw [List.nil_append] at hr1; obtain ⟨p1, c1, hv1⟩ := hr1.slice; have hk5 : Keeps NoS wr w5 := HKE.out.grown hg1 (fun g' h1 h2 => by simp [Value.ownBlock] at h1; omega); have hc5 : ∀ j, j < n → w5.cell? ⟨g, j, none⟩ = some (.int .i64 ((natsI free).getD j 0)) := fun j hj => hk5.cell (H5.out j (by rw [natsI_len, ← HN.out]; exact hj)) (fun f => f); have hn5 := sub_cells (k := k1) (m := n - k1) (off := off) hc5 (by omega) (fun h => HOF.out (by omega)); have hz5 := hk5.size; have HR1 := Lib.hid hr1; have HB1 := Lib.hid hb1; have HK5 := Lib.hid hk5; have HN5 := Lib.hid hn5; have HV1 := Lib.hid hv1; clear hr1 hb1 hk5 hc5 hn5 hv1 hg1)
      refine hkC.out _ _ (trivial) (fun hHeld => ?_)
      clear hkC kC
      try simp only [Act.put, List.setIfInBounds_toArray, List.set_cons_zero, List.set_cons_succ]
      refine wpAnyH_ready (rs := [9]) (by kernel_rfl) (by simp) ?_
      refine AllReadyH.cons (by simp only [List.getElem?_toArray, List.getElem?_cons_succ, List.getElem?_cons_zero]; rfl) (fun kC hkC => ?_) AllReadyH.nil
      (refine step_row HIT.out _ (by rfl) (.tmp 53) (.tmp 57) (by rfl) (H + 1) _ _ (by rfl) HR1.out ⟨g, off, none⟩ (n - k1) _ (natsI ((free.drop k1).take (n - k1))) (by rfl) (by rw [natsI_len, List.length_take, List.length_drop, ← HN.out]; omega) HN5.out (by rw [natsI_len, List.length_take]; omega) (by omega) ?_; intro v2 w6 hr2 hg2 hb2; skip)
      refine hkC.out _ _ (trivial) (fun hHeld => ?_)
      clear hkC kC
      try simp only [Act.put, List.setIfInBounds_toArray, List.set_cons_zero, List.set_cons_succ]
      refine wpAnyH_take (i := 10) (v := ?_) (by simp only [List.getElem?_toArray, List.getElem?_cons_succ, List.getElem?_cons_zero]; rfl) (by kernel_rfl) (by kernel_rfl) (by kernel_rfl) (by exact fun _ _ _ h => h) (Or.inl ⟨by rfl, ?_⟩) hHeld ?_
      rotate_left
      · intro w hSw; (try dsimp only at hSw); go_simp; (try with_reducible rfl)
      try simp only [Act.put, List.setIfInBounds_toArray, List.set_cons_zero, List.set_cons_succ]
      refine wpAnyH_done (by kernel_rfl) ?_ _
      have hk6 : Keeps NoS wr w6 := HK5.out.grown hg2 (fun g' h1 h2 => by
        rcases HB1.out g' h1 with h3 | h3
        · simp [Value.ownBlock] at h3; omega
        · omega)
      obtain ⟨p2, c2, hv2⟩ := hr2.slice
      have hlen2 : (natsI (free.take k) ++ natsI ((free.drop k1).take (n - k1))).length = n - 1 := by
        rw [List.length_append, natsI_len, natsI_len, List.length_take, List.length_take, List.length_drop, ← HN.out]
        have := HK1.out; omega
      rw [hlen2] at hv2
      have hfree : natsI (free.take k) ++ natsI ((free.drop k1).take (n - k1)) = natsI (free.take k ++ free.drop (k + 1)) := by
        rw [natsI_app, HK1.out, List.take_of_length_le (l := free.drop (k + 1)) (by rw [List.length_drop, ← HN.out]; omega)]
      rw [hfree] at hr2
      have hfr : ∀ g, v2.ownBlock = some g → wr.heap.size ≤ g := fun g' h1 => by
        rcases hb2 g' h1 with h2 | h2
        · rcases HB1.out g' h2 with h3 | h3
          · simp [Value.ownBlock] at h3; omega
          · omega
        · omega
      subst hv2
      have hX6 := HX.out.no hk6
      have hC6 := HRC.out.no hk6
      have hcl := fun g' (h : (Value.slice pc nc capc).ownBlock = some g') => HRC.out.lt h
      obtain ⟨m0, m1, m2, m3, m4⟩ := HBm.out _ hX6.t.s.kp
      obtain ⟨M', h', hd⟩ : ∃ M' h', tkTake ⟨2, 2, 4, 0, 2⟩ M ⟨t, 0, 0, false, 0⟩ = (M', h') := ⟨_, _, rfl⟩
      have hst := HC.out.step (by rw [← HN.out]; exact hkn) HK.out hd
      obtain ⟨t', l', s', r', x'⟩ := h'
      have hz6 := hk6.size
      have t0 : (0 : Int) ≤ (t : Int) := by omega
      have t4 : (t : Int) < 4 := by omega
      have hfl : (free.take k ++ free.drop (k + 1)).length = n - 1 := by
        rw [List.length_append, List.length_take, List.length_drop, ← HN.out]; omega
      have HX6 := Lib.hid hX6; have HC6 := Lib.hid hC6; have HR6 := Lib.hid hr2; have HFR := Lib.hid hfr; have HCL := Lib.hid hcl; have HD := Lib.hid hd; have HST := Lib.hid hst; have HFL := Lib.hid hfl
      clear hX6 hC6 hr2 hfr hcl hd hst hfl hlen2 hfree hk6 hb2 hg2 HB1 HK5 HN5 HR1 HE0 HN1 HK1 HOF HCE HWE HKE H5 c5 hoff qk q1 q2 q3 q4 q5 q6 q7 q8 q9 hk hz5 hEz
      clear HX HRC HRF HAP
      go_wp2_with fail
      refine (take_any 2 2 4 0 2 t 0 0 false 0 a v M _ HX6.out.t.s.m).mono ?_
      rw [HD.out]
      unfold handV
      dsimp only
      rintro e w7 ⟨rfl, hm, hk⟩
      have hX7 := HX6.out.turn HA.out (Nat.le_of_lt hGH) hm hk
      have hC7 := HC6.out.ownK HA.out (by omega) hk
      have hR7 := HR6.out.ownK HA.out (by omega) hk
      obtain ⟨F0, F1, F2, F3, F4⟩ := hX7.x.frees t
      obtain ⟨x0, x1, x2, x3, x4⟩ := hX7.x.cell t ht4
      have hl7 := hX7.x.lt
      have hP7 := hX7.put HA.out (Nat.le_of_lt hGH) ht4 ⟨t', l', s', r', x'⟩
      have hC8 := hC7.setH (Nat.lt_succ_self H) t ⟨t', l', s', r', x'⟩
      have hR8 := hR7.setH (Nat.lt_succ_self H) t ⟨t', l', s', r', x'⟩
      have hs7 := hk.size
      unfold setH at hP7 hC8 hR8
      dsimp only at hP7 hC8 hR8
      have HP7 := Lib.hid hP7; have HC8 := Lib.hid hC8; have HR8 := Lib.hid hR8
      clear hm hk hX7 hC7 hR7 hP7 hC8 hR8
      go_upto_region 17 with fail
      generalize ((((w7.setCell ⟨H, t * 5, none⟩ (.int .i64 t')).setCell ⟨H, t * 5 + 1, none⟩ (.int .i64 l')).setCell ⟨H, t * 5 + 2, none⟩ (.int .i64 s')).setCell ⟨H, t * 5 + 3, none⟩ (.bool r')).setCell ⟨H, t * 5 + 4, none⟩ (.int .i64 x') = wz at *
      have hzH : H < wz.heap.size := HP7.out.x.lt
      have hrow := HC8.out.no ((Keeps.refl NoS wz).alloc (.cells #[.int .i64 t] 3))
      have hzc := cells_new wz [.int .i64 t] 3 0 (.int .i64 t) rfl
      rw [add_zero_off] at hzc
      have hncl : (natsI came).length ≤ 10000 := by rw [natsI_len, ← HNC.out]; omega
      have HROW := Lib.hid hrow; have HZC := Lib.hid hzc; have HNL := Lib.hid hncl
      clear hrow hzc hncl F0 F1 F2 F3 F4 x0 x1 x2 x3 x4 hl7 hs7 m0 m1 m2 m3 m4 HX6 HC6 HR6 HD
      go_wp2_with (at_builtin; refine wpList_row1 HIT.out _ rfl (.tmp 66) (.tmp 68) rfl (H + 1) _ (natsI came) rfl HROW.out wz.heap.size _ (t : Int) rfl HZC.out HNL.out (by simp; omega) ?_; intro v9 w9 hr9 hg9 hb9)
      have hX9 := ((HP7.out.no ((Keeps.refl NoS wz).alloc (.cells #[.int .i64 t] 3))).grown HA.out (Nat.le_of_lt hGH) hg9 (fun g' h => by have := HC8.out.lo g' h; omega)).congr HST.out.2
      have hR9 := (HR8.out.no ((Keeps.refl NoS wz).alloc (.cells #[.int .i64 t] 3))).grown hg9 (fun g' h h2 => by have := HFR.out g' h; have := HCL.out g' h2; omega)
      have hr9' : RowI 3 w9 (H + 1) v9 (natsI (came ++ [t])) := by rw [natsI_app]; exact hr9
      obtain ⟨p9, c9, hv9⟩ := hr9'.slice
      rw [natsI_len] at hv9
      have ha9 : ∀ g, (Value.slice p2 (n - 1) c2).ownBlock = some g → g ≠ H ∧ v9.ownBlock ≠ some g := fun g' h => by
        have e1 := HFR.out g' h
        have e2 := HR8.out.lo g' h
        have e3 := HR8.out.lt h
        refine ⟨by omega, fun h2 => ?_⟩
        rcases hb9 g' h2 with h3 | h3
        · have := HCL.out g' h3; omega
        · simp at h3; omega
      have HX9 := Lib.hid hX9; have HR9 := Lib.hid hR9; have HC9 := Lib.hid hr9'; have HA9 := Lib.hid ha9; have HV9 := Lib.hid hv9
      clear hX9 hR9 hr9' ha9 hv9 hr9 hg9 hb9
      go_roundw
      case rel => exact ⟨_, _, M', _, rfl, HST.out.1, HX9.out, ⟨_, _, _, HFL.out.symm, rfl⟩, HR9.out.lower (by omega), ⟨_, _, _, rfl, HV9.out⟩, HC9.out, HA9.out⟩
      case measure => simp [lenV]; omega
    · obtain rfl : n = 0 := by omega
      have hf0 : free = [] := List.length_eq_zero_iff.1 HN.out.symm
      subst hf0
      have hord := HC.out.ord
      have hX' := HX.out.congr hord.2
      obtain rfl : nc = 4 := by omega
      have hcl := fun g' (h : (Value.slice pc 4 capc).ownBlock = some g') => HRC.out.lt h
      have HO := Lib.hid hord.1; have HX' := Lib.hid hX'; have HCL := Lib.hid hcl
      clear hord hX' hcl HC HX HRF HAP HN hlt hn4
      have hL : (L.length : Int) ≤ 200 := by omega
      go_wp2_with fail
      go_loopw [15, 10] (fun iv hv wq => ∃ (n s d : Nat) (M : MemS), n ≤ L.length + 40 ∧ iv = .int .i64 n ∧ OrdI came s d M ∧ Prog L.length came s (s + d) n ∧ OdS W wq a c v u M H (ordH came s d) ∧ (∃ p m cap, m = d ∧ hv = .slice p m cap) ∧ RowI 3 wq (H + 1) hv (natsI (came.take d)) ∧ RowI 3 wq (H + 1) (.slice pc 4 capc) (natsI came) ∧ ∀ g, hv.ownBlock = some g → (Value.slice pc 4 capc).ownBlock ≠ some g) (fun iv _ _ => L.length + 40 - (intOf iv).toNat)
      case atStart => exact ⟨0, 0, 0, M, by omega, rfl, HO.out, Prog.start (by omega), HX'.out, ⟨none, 0, 0, rfl, rfl⟩, RowI.nil _ _ _, HRC.out, fun g hg => by simp [Value.ownBlock] at hg⟩
      case round =>
        clear HO HX' HCL HRC
        obtain ⟨n, s, d, M, hnl, rfl, ho, hpr, hx, ⟨pv, nd, cd, hnd, rfl⟩, hrv, hrc, hav⟩ := hrel
        have HO := Lib.hid ho; have HP := Lib.hid hpr; have HX := Lib.hid hx; have HRV := Lib.hid hrv; have HRC := Lib.hid hrc; have HAV := Lib.hid hav
        have hd4 := ho.d4
        have hsd := ho.sd
        subst hnd
        clear ho hpr hx hrv hrc hav
        by_cases hlt : n < L.length + 40
        · have hn40 : (n : Int) < (L.length : Int) + 40 := by omega
          by_cases hl : n < L.length
          · obtain ⟨b, off, rfl, hcs⟩ := HW.out (fun e => by rw [e] at hl; simp at hl)
            have cn := (HWk.out.trans HX.out.t.s.kp).cell (hcs n hl) (fun f => f)
            clear hcs
            generalize L.getD n 0 = z at cn
            obtain ⟨t, ht, hz⟩ := pickn z 4 (by omega) (by omega)
            have hz : (IntKind.u64.wrap z).tmod 4 = (t : Int) := hz
            have hst : L.length ≤ n → s + nd < 8 → came.getD s 0 ≠ t → came.getD s 0 ≠ n % 4 := fun h => absurd h (by omega)
            have t0 : (0 : Int) ≤ (t : Int) := by omega
            have t4 : (t : Int) < 4 := by omega
            obtain ⟨m0, m1, m2, m3, m4⟩ := HBm.out _ HX.out.t.s.kp
            obtain ⟨F0, F1, F2, F3, F4⟩ := HX.out.x.frees t
            have hl := HX.out.x.lt
            have HST := Lib.hid hst
            clear hst
            have hcs := HO.out.cases ht
            rcases hcs with ⟨he, hne⟩ | ⟨he, hs4, hd1, hdrop⟩ | ⟨he, htake⟩
            · obtain ⟨x0, x1, x2, x3, x4⟩ := HX.out.x.at ht he
              have HNE := Lib.hid hne
              clear he hne
              go_wp2_with fail
              go_roundw
              case rel => exact ⟨n + 1, s, nd, M, by omega, by go_num, HO.out, HP.out.stay (fun h8 => (HO.out.at (by omega)).1) (fun hb h8 => HST.out hb h8 (HNE.out (by omega))), HX.out, ⟨_, _, _, rfl, rfl⟩, HRV.out, HRC.out, HAV.out⟩
              case measure => simp [intOf]; omega
            · obtain ⟨x0, x1, x2, x3, x4⟩ := HX.out.x.at ht he
              obtain ⟨M', h', hd⟩ : ∃ M' h', tkDrop ⟨2, 2, 4, 0, 2⟩ M ⟨t, 0, 9, false, (s : Nat)⟩ = (M', h') := ⟨_, _, rfl⟩
              have hds := hdrop M' h' hd
              have HD1 := Lib.hid hd1
              clear hd1
              obtain ⟨t', l', s', r', x'⟩ := h'
              have HD := Lib.hid hd; have HDS := Lib.hid hds
              have hXd := HX.out.no ((Keeps.refl NoS _).drew)
              clear hd hds hdrop he
              go_wp2_with fail
              refine wp_region_kept_drew 8 (fun w' => (w'.cell? ⟨H, t * 5, none⟩ = some (.int .i64 t) ∧ w'.cell? ⟨H, t * 5 + 1, none⟩ = some (.int .i64 0) ∧ w'.cell? ⟨H, t * 5 + 2, none⟩ = some (.int .i64 9) ∧ w'.cell? ⟨H, t * 5 + 3, none⟩ = some (.bool false) ∧ w'.cell? ⟨H, t * 5 + 4, none⟩ = some (.int .i64 s)) ∧ (w'.cell? ⟨B, 0, none⟩ = some (.int .i64 2) ∧ w'.cell? ⟨B, 1, none⟩ = some (.int .i64 2) ∧ w'.cell? ⟨B, 2, none⟩ = some (.int .i64 4) ∧ w'.cell? ⟨B, 3, none⟩ = some (.int .i64 0) ∧ w'.cell? ⟨B, 4, none⟩ = some (.int .i64 2))) 8 (fun _ => True) (by kernel_rfl) (⟨⟨x0, x1, x2, x3, x4⟩, ⟨m0, m1, m2, m3, m4⟩⟩) (trivial) (fun hK => ?_)
              refine wpAnyK_take1 (i := 0) (v := ?_) (by simp only [List.getElem?_toArray, List.getElem?_cons_succ, List.getElem?_cons_zero]; rfl) (by kernel_rfl) (by kernel_rfl) (by kernel_rfl) (by kernel_rfl) (by kernel_rfl) (by kernel_rfl) (by exact fun _ _ _ h => h) (Or.inl ⟨by rfl, ?_⟩) (hK _) ?_
              rotate_left
              · intro w hSw; (try dsimp only at hSw); go_simp; (try with_reducible rfl)
              try simp only [Act.put, List.setIfInBounds_toArray, List.set_cons_zero, List.set_cons_succ]
              refine wpAnyK_take1 (i := 1) (v := ?_) (by simp only [List.getElem?_toArray, List.getElem?_cons_succ, List.getElem?_cons_zero]; rfl) (by kernel_rfl) (by kernel_rfl) (by kernel_rfl) (by kernel_rfl) (by kernel_rfl) (by kernel_rfl) (by exact fun _ _ _ h => h) (Or.inl ⟨by rfl, ?_⟩) (hK _) ?_
              rotate_left
              · intro w hSw; (try dsimp only at hSw); go_simp; (try with_reducible rfl)
              try simp only [Act.put, List.setIfInBounds_toArray, List.set_cons_zero, List.set_cons_succ]
              refine wpAnyK_take1 (i := 2) (v := ?_) (by simp only [List.getElem?_toArray, List.getElem?_cons_succ, List.getElem?_cons_zero]; rfl) (by kernel_rfl) (by kernel_rfl) (by kernel_rfl) (by kernel_rfl) (by kernel_rfl) (by kernel_rfl) (by exact fun _ _ _ h => h) (Or.inl ⟨by rfl, ?_⟩) (hK _) ?_
              rotate_left
              · intro w hSw; (try dsimp only at hSw); go_simp; (try with_reducible rfl)
              try simp only [Act.put, List.setIfInBounds_toArray, List.set_cons_zero, List.set_cons_succ]
              refine wpAnyK_take1 (i := 3) (v := ?_) (by simp only [List.getElem?_toArray, List.getElem?_cons_succ, List.getElem?_cons_zero]; rfl) (by kernel_rfl) (by kernel_rfl) (by kernel_rfl) (by kernel_rfl) (by kernel_rfl) (by kernel_rfl) (by exact fun _ _ _ h => h) (Or.inl ⟨by rfl, ?_⟩) (hK _) ?_
              rotate_left
              · intro w hSw; (try dsimp only at hSw); go_simp; (try with_reducible rfl)
              try simp only [Act.put, List.setIfInBounds_toArray, List.set_cons_zero, List.set_cons_succ]
              refine wpAnyK_take1 (i := 4) (v := ?_) (by simp only [List.getElem?_toArray, List.getElem?_cons_succ, List.getElem?_cons_zero]; rfl) (by kernel_rfl) (by kernel_rfl) (by kernel_rfl) (by kernel_rfl) (by kernel_rfl) (by kernel_rfl) (by exact fun _ _ _ h => h) (Or.inl ⟨by rfl, ?_⟩) (hK _) ?_
              rotate_left
              · intro w hSw; (try dsimp only at hSw); go_simp; (try with_reducible rfl)
              try simp only [Act.put, List.setIfInBounds_toArray, List.set_cons_zero, List.set_cons_succ]
              refine wpAnyK_take1 (i := 5) (v := ?_) (by simp only [List.getElem?_toArray, List.getElem?_cons_succ, List.getElem?_cons_zero]; rfl) (by kernel_rfl) (by kernel_rfl) (by kernel_rfl) (by kernel_rfl) (by kernel_rfl) (by kernel_rfl) (by exact fun _ _ _ h => h) (Or.inl ⟨by rfl, ?_⟩) (hK _) ?_
              rotate_left
              · intro w hSw; (try dsimp only at hSw); go_simp; (try with_reducible rfl)
              try simp only [Act.put, List.setIfInBounds_toArray, List.set_cons_zero, List.set_cons_succ]
              refine wpAnyK_one (i := 6) (by kernel_rfl) (by simp only [List.getElem?_toArray, List.getElem?_cons_succ, List.getElem?_cons_zero]; rfl) (fun kC hkC => ?_)
              go_simp
              refine (drop_any 2 2 4 0 2 t 0 9 false s a v M _ hXd.t.s.m).mono ?_; rw [HD.out]; unfold handV; dsimp only; rintro e w7 ⟨rfl, hm, hk⟩; have hX7 := hXd.turn HA.out (Nat.le_of_lt hGH) hm hk; have hV7 := (HRV.out.no ((Keeps.refl NoS _).drew)).ownK HA.out (by omega) hk; have hC7 := (HRC.out.no ((Keeps.refl NoS _).drew)).ownK HA.out (by omega) hk; have m7 := HBm.out _ hX7.t.s.kp; have hA7 := hX7.x.cell t ht; have hcs7 := hk.cell (p := ⟨H, t * 5, none⟩) x0 (HA.out.na (Nat.le_of_lt hGH)); have hcs7b := hk.cell (p := ⟨H, t * 5 + 1, none⟩) x1 (HA.out.na (Nat.le_of_lt hGH)); have hcs7c := hk.cell (p := ⟨H, t * 5 + 2, none⟩) x2 (HA.out.na (Nat.le_of_lt hGH)); have hcs7d := hk.cell (p := ⟨H, t * 5 + 3, none⟩) x3 (HA.out.na (Nat.le_of_lt hGH)); have hcs7e := hk.cell (p := ⟨H, t * 5 + 4, none⟩) x4 (HA.out.na (Nat.le_of_lt hGH)); obtain ⟨F0, F1, F2, F3, F4⟩ := hX7.x.frees t; have hl7 := hX7.x.lt; have hQ7 := hX7.put HA.out (Nat.le_of_lt hGH) ht ⟨t', l', s', r', x'⟩; have hV8 := hV7.setH (Nat.lt_succ_self H) t ⟨t', l', s', r', x'⟩; have hC8 := hC7.setH (Nat.lt_succ_self H) t ⟨t', l', s', r', x'⟩; have hz7 := hQ7.x.at ht (show hput _ t _ t = _ from hput_at _ _ _); unfold setH at hQ7 hV8 hC8 hz7; dsimp only at hQ7 hV8 hC8 hz7; have HQ := Lib.hid hQ7; have HRV7 := Lib.hid hV8; have HRC7 := Lib.hid hC8; clear hA7 hQ7 hV8 hC8 hm hX7 hV7 hC7
              (try go_wp2_with fail)
              refine hkC.out _ _ (⟨⟨hcs7, hcs7b, hcs7c, hcs7d, hcs7e⟩, m7⟩) (trivial) (fun hK => ?_)
              clear hkC kC
              try simp only [Act.put, List.setIfInBounds_toArray, List.set_cons_zero, List.set_cons_succ]
              refine wpAnyK_take1 (i := 7) (v := ?_) (by simp only [List.getElem?_toArray, List.getElem?_cons_succ, List.getElem?_cons_zero]; rfl) (by kernel_rfl) (by kernel_rfl) (by kernel_rfl) (by kernel_rfl) (by kernel_rfl) (by kernel_rfl) (by exact fun _ _ _ h => h) (Or.inl ⟨by rfl, ?_⟩) (hK _) ?_
              rotate_left
              · intro w hSw; (try dsimp only at hSw); go_simp; (try with_reducible rfl)
              try simp only [Act.put, List.setIfInBounds_toArray, List.set_cons_zero, List.set_cons_succ]
              refine wpAnyK_last (i := 8) (by kernel_rfl) (by simp only [List.getElem?_toArray, List.getElem?_cons_succ, List.getElem?_cons_zero]; rfl) (by kernel_rfl) (by kernel_rfl) (fun kC hkC => ?_)
              go_simp
              refine hkC.out _ _ ?_
              clear hkC kC
              try simp only [Act.put, List.setIfInBounds_toArray, List.set_cons_zero, List.set_cons_succ]
              refine wpAnyK_done (by kernel_rfl) ?_ _
              generalize ((((w7.setCell ⟨H, t * 5, none⟩ (.int .i64 t')).setCell ⟨H, t * 5 + 1, none⟩ (.int .i64 l')).setCell ⟨H, t * 5 + 2, none⟩ (.int .i64 s')).setCell ⟨H, t * 5 + 3, none⟩ (.bool r')).setCell ⟨H, t * 5 + 4, none⟩ (.int .i64 x') = wz at *
              clear hcs7 hcs7b hcs7c hcs7d hcs7e F0 F1 F2 F3 F4 hl7 x0 x1 x2 x3 x4 m0 m1 m2 m3 m4 hXd HX HRV HRC m7 hk
              obtain ⟨z0, z1, z2, z3, z4⟩ := hz7
              have hzH := HQ.out.x.lt
              go_wp2_with fail
              go_roundw
              case rel => exact ⟨n + 1, s + 1, nd, M', by omega, by go_num, HDS.out.1, (by have h := HP.out.adv (s' := s + 1); rwa [show s + nd + 1 = s + 1 + nd by omega] at h), HQ.out.congr HDS.out.2, ⟨_, _, _, rfl, rfl⟩, HRV7.out, HRC7.out, HAV.out⟩
              case measure => simp [intOf]; omega
            · obtain ⟨x0, x1, x2, x3, x4⟩ := HX.out.x.at ht he
              generalize List.idxOf t came = xi at *
              obtain ⟨M', h', hd⟩ : ∃ M' h', tkTake ⟨2, 2, 4, 0, 2⟩ M ⟨t, 0, 1, false, (xi : Nat)⟩ = (M', h') := ⟨_, _, rfl⟩
              have hds := htake M' h' hd
              obtain ⟨t', l', s', r', x'⟩ := h'
              dsimp only at hds
              have HD := Lib.hid hd
              have hXd := HX.out.no ((Keeps.refl NoS _).drew)
              clear hd htake he
              rcases hds with ⟨rfl, hds, hd4', hcd, hoi, hcg⟩ | ⟨rfl, hcd, hoi, hcg⟩
              · have HCD := Lib.hid hcd; have HOI := Lib.hid hoi; have HCG := Lib.hid hcg; have HDS := Lib.hid hds
                clear hcd hoi hcg hds
                go_wp2_with fail
                refine wp_region_kept_drew 8 (fun w' => (w'.cell? ⟨H, t * 5, none⟩ = some (.int .i64 t) ∧ w'.cell? ⟨H, t * 5 + 1, none⟩ = some (.int .i64 0) ∧ w'.cell? ⟨H, t * 5 + 2, none⟩ = some (.int .i64 1) ∧ w'.cell? ⟨H, t * 5 + 3, none⟩ = some (.bool false) ∧ w'.cell? ⟨H, t * 5 + 4, none⟩ = some (.int .i64 xi)) ∧ (w'.cell? ⟨B, 0, none⟩ = some (.int .i64 2) ∧ w'.cell? ⟨B, 1, none⟩ = some (.int .i64 2) ∧ w'.cell? ⟨B, 2, none⟩ = some (.int .i64 4) ∧ w'.cell? ⟨B, 3, none⟩ = some (.int .i64 0) ∧ w'.cell? ⟨B, 4, none⟩ = some (.int .i64 2))) 8 (fun _ => True) (by kernel_rfl) (⟨⟨x0, x1, x2, x3, x4⟩, ⟨m0, m1, m2, m3, m4⟩⟩) (trivial) (fun hK => ?_)
                refine wpAnyK_take1 (i := 0) (v := ?_) (by simp only [List.getElem?_toArray, List.getElem?_cons_succ, List.getElem?_cons_zero]; rfl) (by kernel_rfl) (by kernel_rfl) (by kernel_rfl) (by kernel_rfl) (by kernel_rfl) (by kernel_rfl) (by exact fun _ _ _ h => h) (Or.inl ⟨by rfl, ?_⟩) (hK _) ?_
                rotate_left
                · intro w hSw; (try dsimp only at hSw); go_simp; (try with_reducible rfl)
                try simp only [Act.put, List.setIfInBounds_toArray, List.set_cons_zero, List.set_cons_succ]
                refine wpAnyK_take1 (i := 1) (v := ?_) (by simp only [List.getElem?_toArray, List.getElem?_cons_succ, List.getElem?_cons_zero]; rfl) (by kernel_rfl) (by kernel_rfl) (by kernel_rfl) (by kernel_rfl) (by kernel_rfl) (by kernel_rfl) (by exact fun _ _ _ h => h) (Or.inl ⟨by rfl, ?_⟩) (hK _) ?_
                rotate_left
                · intro w hSw; (try dsimp only at hSw); go_simp; (try with_reducible rfl)
                try simp only [Act.put, List.setIfInBounds_toArray, List.set_cons_zero, List.set_cons_succ]
                refine wpAnyK_take1 (i := 2) (v := ?_) (by simp only [List.getElem?_toArray, List.getElem?_cons_succ, List.getElem?_cons_zero]; rfl) (by kernel_rfl) (by kernel_rfl) (by kernel_rfl) (by kernel_rfl) (by kernel_rfl) (by kernel_rfl) (by exact fun _ _ _ h => h) (Or.inl ⟨by rfl, ?_⟩) (hK _) ?_
                rotate_left
                · intro w hSw; (try dsimp only at hSw); go_simp; (try with_reducible rfl)
                try simp only [Act.put, List.setIfInBounds_toArray, List.set_cons_zero, List.set_cons_succ]
                refine wpAnyK_take1 (i := 3) (v := ?_) (by simp only [List.getElem?_toArray, List.getElem?_cons_succ, List.getElem?_cons_zero]; rfl) (by kernel_rfl) (by kernel_rfl) (by kernel_rfl) (by kernel_rfl) (by kernel_rfl) (by kernel_rfl) (by exact fun _ _ _ h => h) (Or.inl ⟨by rfl, ?_⟩) (hK _) ?_
                rotate_left
                · intro w hSw; (try dsimp only at hSw); go_simp; (try with_reducible rfl)
                try simp only [Act.put, List.setIfInBounds_toArray, List.set_cons_zero, List.set_cons_succ]
                refine wpAnyK_take1 (i := 4) (v := ?_) (by simp only [List.getElem?_toArray, List.getElem?_cons_succ, List.getElem?_cons_zero]; rfl) (by kernel_rfl) (by kernel_rfl) (by kernel_rfl) (by kernel_rfl) (by kernel_rfl) (by kernel_rfl) (by exact fun _ _ _ h => h) (Or.inl ⟨by rfl, ?_⟩) (hK _) ?_
                rotate_left
                · intro w hSw; (try dsimp only at hSw); go_simp; (try with_reducible rfl)
                try simp only [Act.put, List.setIfInBounds_toArray, List.set_cons_zero, List.set_cons_succ]
                refine wpAnyK_take1 (i := 5) (v := ?_) (by simp only [List.getElem?_toArray, List.getElem?_cons_succ, List.getElem?_cons_zero]; rfl) (by kernel_rfl) (by kernel_rfl) (by kernel_rfl) (by kernel_rfl) (by kernel_rfl) (by kernel_rfl) (by exact fun _ _ _ h => h) (Or.inl ⟨by rfl, ?_⟩) (hK _) ?_
                rotate_left
                · intro w hSw; (try dsimp only at hSw); go_simp; (try with_reducible rfl)
                try simp only [Act.put, List.setIfInBounds_toArray, List.set_cons_zero, List.set_cons_succ]
                refine wpAnyK_one (i := 6) (by kernel_rfl) (by simp only [List.getElem?_toArray, List.getElem?_cons_succ, List.getElem?_cons_zero]; rfl) (fun kC hkC => ?_)
                go_simp
                refine (take_any 2 2 4 0 2 t 0 1 false xi a v M _ hXd.t.s.m).mono ?_; rw [HD.out]; unfold handV; dsimp only; rintro e w7 ⟨rfl, hm, hk⟩; have hX7 := hXd.turn HA.out (Nat.le_of_lt hGH) hm hk; have hV7 := (HRV.out.no ((Keeps.refl NoS _).drew)).ownK HA.out (by omega) hk; have hC7 := (HRC.out.no ((Keeps.refl NoS _).drew)).ownK HA.out (by omega) hk; have m7 := HBm.out _ hX7.t.s.kp; have hA7 := hX7.x.cell t ht; have hcs7 := hk.cell (p := ⟨H, t * 5, none⟩) x0 (HA.out.na (Nat.le_of_lt hGH)); have hcs7b := hk.cell (p := ⟨H, t * 5 + 1, none⟩) x1 (HA.out.na (Nat.le_of_lt hGH)); have hcs7c := hk.cell (p := ⟨H, t * 5 + 2, none⟩) x2 (HA.out.na (Nat.le_of_lt hGH)); have hcs7d := hk.cell (p := ⟨H, t * 5 + 3, none⟩) x3 (HA.out.na (Nat.le_of_lt hGH)); have hcs7e := hk.cell (p := ⟨H, t * 5 + 4, none⟩) x4 (HA.out.na (Nat.le_of_lt hGH)); obtain ⟨F0, F1, F2, F3, F4⟩ := hX7.x.frees t; have hl7 := hX7.x.lt; have hQ7 := hX7.put HA.out (Nat.le_of_lt hGH) ht ⟨t', l', 9, r', x'⟩; have hV8 := hV7.setH (Nat.lt_succ_self H) t ⟨t', l', 9, r', x'⟩; have hC8 := hC7.setH (Nat.lt_succ_self H) t ⟨t', l', 9, r', x'⟩; have hz7 := hQ7.x.at ht (show hput _ t _ t = _ from hput_at _ _ _); unfold setH at hQ7 hV8 hC8 hz7; dsimp only at hQ7 hV8 hC8 hz7; have HQ := Lib.hid hQ7; have HRV7 := Lib.hid hV8; have HRC7 := Lib.hid hC8; clear hA7 hQ7 hV8 hC8 hm hX7 hV7 hC7
                (try go_wp2_with fail)
                refine hkC.out _ _ (⟨⟨hcs7, hcs7b, hcs7c, hcs7d, hcs7e⟩, m7⟩) (trivial) (fun hK => ?_)
                clear hkC kC
                try simp only [Act.put, List.setIfInBounds_toArray, List.set_cons_zero, List.set_cons_succ]
                refine wpAnyK_take1 (i := 7) (v := ?_) (by simp only [List.getElem?_toArray, List.getElem?_cons_succ, List.getElem?_cons_zero]; rfl) (by kernel_rfl) (by kernel_rfl) (by kernel_rfl) (by kernel_rfl) (by kernel_rfl) (by kernel_rfl) (by exact fun _ _ _ h => h) (Or.inl ⟨by rfl, ?_⟩) (hK _) ?_
                rotate_left
                · intro w hSw; (try dsimp only at hSw); go_simp; (try with_reducible rfl)
                try simp only [Act.put, List.setIfInBounds_toArray, List.set_cons_zero, List.set_cons_succ]
                refine wpAnyK_last (i := 8) (by kernel_rfl) (by simp only [List.getElem?_toArray, List.getElem?_cons_succ, List.getElem?_cons_zero]; rfl) (by kernel_rfl) (by kernel_rfl) (fun kC hkC => ?_)
                go_simp
                refine hkC.out _ _ ?_
                clear hkC kC
                try simp only [Act.put, List.setIfInBounds_toArray, List.set_cons_zero, List.set_cons_succ]
                refine wpAnyK_done (by kernel_rfl) ?_ _
                generalize ((((w7.setCell ⟨H, t * 5, none⟩ (.int .i64 t')).setCell ⟨H, t * 5 + 1, none⟩ (.int .i64 l')).setCell ⟨H, t * 5 + 2, none⟩ (.int .i64 9)).setCell ⟨H, t * 5 + 3, none⟩ (.bool r')).setCell ⟨H, t * 5 + 4, none⟩ (.int .i64 x') = wz at *
                clear hcs7 hcs7b hcs7c hcs7d hcs7e F0 F1 F2 F3 F4 hl7 x0 x1 x2 x3 x4 m0 m1 m2 m3 m4 hXd HX HRV HRC m7 hk
                obtain ⟨z0, z1, z2, z3, z4⟩ := hz7
                have hzH := HQ.out.x.lt
                have hrow := HRV7.out.no ((Keeps.refl NoS wz).alloc (.cells #[.int .i64 t] 3))
                have hzc := cells_new wz [.int .i64 t] 3 0 (.int .i64 t) rfl
                rw [add_zero_off] at hzc
                have hncl : (natsI (came.take nd)).length ≤ 10000 := by rw [natsI_len, List.length_take]; omega
                have hvl := fun g' (h : (Value.slice pv nd cd).ownBlock = some g') => HRV7.out.lt h
                have hcl := fun g' (h : (Value.slice pc 4 capc).ownBlock = some g') => HRC7.out.lt h
                have HROW := Lib.hid hrow; have HZC := Lib.hid hzc; have HNL := Lib.hid hncl; have HVL := Lib.hid hvl; have HCL := Lib.hid hcl
                clear hrow hzc hncl hvl hcl
                go_wp2_with (at_builtin; go_loud (refine wpList_row1 HIT.out _ rfl (.tmp 119) (.tmp 121) rfl (H + 1) _ (natsI (came.take nd)) rfl HROW.out wz.heap.size _ (t : Int) rfl HZC.out HNL.out (by simp; omega) ?_); intro v9 w9 hr9 hg9 hb9)
                have hX9 := ((HQ.out.no ((Keeps.refl NoS wz).alloc (.cells #[.int .i64 t] 3))).grown HA.out (Nat.le_of_lt hGH) hg9 (fun g' h => by have := HRV7.out.lo g' h; omega)).congr HCG.out
                have hR9 := (HRC7.out.no ((Keeps.refl NoS wz).alloc (.cells #[.int .i64 t] 3))).grown hg9 (fun g' h h2 => HAV.out g' h2 h)
                have hr9' : RowI 3 w9 (H + 1) v9 (natsI (came.take (nd + 1))) := by
                  rw [take_snoc_getD (by rw [HO.out.lc]; exact hd4'), natsI_app, HCD.out]; exact hr9
                obtain ⟨p9, c9, hv9⟩ := hr9'.slice
                have hlen9 : (natsI (came.take (nd + 1))).length = nd + 1 := by rw [natsI_len, List.length_take, HO.out.lc]; omega
                rw [hlen9] at hv9
                have ha9 : ∀ g, v9.ownBlock = some g → (Value.slice pc 4 capc).ownBlock ≠ some g := fun g' h2 h => by
                  rcases hb9 g' h2 with h3 | h3
                  · exact HAV.out g' h3 h
                  · have := HCL.out g' h; simp at h3; omega
                have HX9 := Lib.hid hX9; have HR9 := Lib.hid hR9; have HC9 := Lib.hid hr9'; have HA9 := Lib.hid ha9; have HV9 := Lib.hid hv9
                clear hX9 hR9 hr9' ha9 hv9 hr9 hg9 hb9 hlen9
                go_roundw
                case rel => exact ⟨n + 1, s, nd + 1, M', by omega, by go_num, HOI.out, (by have h := HP.out.adv (s' := s); rwa [show s + nd + 1 = s + (nd + 1) by omega] at h), HX9.out, ⟨_, _, _, rfl, HV9.out⟩, HC9.out, HR9.out, HA9.out⟩
                case measure => simp [intOf]; omega
              · have HCD := Lib.hid hcd; have HOI := Lib.hid hoi; have HCG := Lib.hid hcg
                clear hcd hoi hcg
                go_wp2_with fail
                refine wp_region_kept_drew 8 (fun w' => (w'.cell? ⟨H, t * 5, none⟩ = some (.int .i64 t) ∧ w'.cell? ⟨H, t * 5 + 1, none⟩ = some (.int .i64 0) ∧ w'.cell? ⟨H, t * 5 + 2, none⟩ = some (.int .i64 1) ∧ w'.cell? ⟨H, t * 5 + 3, none⟩ = some (.bool false) ∧ w'.cell? ⟨H, t * 5 + 4, none⟩ = some (.int .i64 xi)) ∧ (w'.cell? ⟨B, 0, none⟩ = some (.int .i64 2) ∧ w'.cell? ⟨B, 1, none⟩ = some (.int .i64 2) ∧ w'.cell? ⟨B, 2, none⟩ = some (.int .i64 4) ∧ w'.cell? ⟨B, 3, none⟩ = some (.int .i64 0) ∧ w'.cell? ⟨B, 4, none⟩ = some (.int .i64 2))) 8 (fun _ => True) (by kernel_rfl) (⟨⟨x0, x1, x2, x3, x4⟩, ⟨m0, m1, m2, m3, m4⟩⟩) (trivial) (fun hK => ?_)
                refine wpAnyK_take1 (i := 0) (v := ?_) (by simp only [List.getElem?_toArray, List.getElem?_cons_succ, List.getElem?_cons_zero]; rfl) (by kernel_rfl) (by kernel_rfl) (by kernel_rfl) (by kernel_rfl) (by kernel_rfl) (by kernel_rfl) (by exact fun _ _ _ h => h) (Or.inl ⟨by rfl, ?_⟩) (hK _) ?_
                rotate_left
                · intro w hSw; (try dsimp only at hSw); go_simp; (try with_reducible rfl)
                try simp only [Act.put, List.setIfInBounds_toArray, List.set_cons_zero, List.set_cons_succ]
                refine wpAnyK_take1 (i := 1) (v := ?_) (by simp only [List.getElem?_toArray, List.getElem?_cons_succ, List.getElem?_cons_zero]; rfl) (by kernel_rfl) (by kernel_rfl) (by kernel_rfl) (by kernel_rfl) (by kernel_rfl) (by kernel_rfl) (by exact fun _ _ _ h => h) (Or.inl ⟨by rfl, ?_⟩) (hK _) ?_
                rotate_left
                · intro w hSw; (try dsimp only at hSw); go_simp; (try with_reducible rfl)
                try simp only [Act.put, List.setIfInBounds_toArray, List.set_cons_zero, List.set_cons_succ]
                refine wpAnyK_take1 (i := 2) (v := ?_) (by simp only [List.getElem?_toArray, List.getElem?_cons_succ, List.getElem?_cons_zero]; rfl) (by kernel_rfl) (by kernel_rfl) (by kernel_rfl) (by kernel_rfl) (by kernel_rfl) (by kernel_rfl) (by exact fun _ _ _ h => h) (Or.inl ⟨by rfl, ?_⟩) (hK _) ?_
                rotate_left
                · intro w hSw; (try dsimp only at hSw); go_simp; (try with_reducible rfl)
                try simp only [Act.put, List.setIfInBounds_toArray, List.set_cons_zero, List.set_cons_succ]
                refine wpAnyK_take1 (i := 3) (v := ?_) (by simp only [List.getElem?_toArray, List.getElem?_cons_succ, List.getElem?_cons_zero]; rfl) (by kernel_rfl) (by kernel_rfl) (by kernel_rfl) (by kernel_rfl) (by kernel_rfl) (by kernel_rfl) (by exact fun _ _ _ h => h) (Or.inl ⟨by rfl, ?_⟩) (hK _) ?_
                rotate_left
                · intro w hSw; (try dsimp only at hSw); go_simp; (try with_reducible rfl)
                try simp only [Act.put, List.setIfInBounds_toArray, List.set_cons_zero, List.set_cons_succ]
                refine wpAnyK_take1 (i := 4) (v := ?_) (by simp only [List.getElem?_toArray, List.getElem?_cons_succ, List.getElem?_cons_zero]; rfl) (by kernel_rfl) (by kernel_rfl) (by kernel_rfl) (by kernel_rfl) (by kernel_rfl) (by kernel_rfl) (by exact fun _ _ _ h => h) (Or.inl ⟨by rfl, ?_⟩) (hK _) ?_
                rotate_left
                · intro w hSw; (try dsimp only at hSw); go_simp; (try with_reducible rfl)
                try simp only [Act.put, List.setIfInBounds_toArray, List.set_cons_zero, List.set_cons_succ]
                refine wpAnyK_take1 (i := 5) (v := ?_) (by simp only [List.getElem?_toArray, List.getElem?_cons_succ, List.getElem?_cons_zero]; rfl) (by kernel_rfl) (by kernel_rfl) (by kernel_rfl) (by kernel_rfl) (by kernel_rfl) (by kernel_rfl) (by exact fun _ _ _ h => h) (Or.inl ⟨by rfl, ?_⟩) (hK _) ?_
                rotate_left
                · intro w hSw; (try dsimp only at hSw); go_simp; (try with_reducible rfl)
                try simp only [Act.put, List.setIfInBounds_toArray, List.set_cons_zero, List.set_cons_succ]
                refine wpAnyK_one (i := 6) (by kernel_rfl) (by simp only [List.getElem?_toArray, List.getElem?_cons_succ, List.getElem?_cons_zero]; rfl) (fun kC hkC => ?_)
                go_simp
                refine (take_any 2 2 4 0 2 t 0 1 false xi a v M _ hXd.t.s.m).mono ?_; rw [HD.out]; unfold handV; dsimp only; rintro e w7 ⟨rfl, hm, hk⟩; have hX7 := hXd.turn HA.out (Nat.le_of_lt hGH) hm hk; have hV7 := (HRV.out.no ((Keeps.refl NoS _).drew)).ownK HA.out (by omega) hk; have hC7 := (HRC.out.no ((Keeps.refl NoS _).drew)).ownK HA.out (by omega) hk; have m7 := HBm.out _ hX7.t.s.kp; have hA7 := hX7.x.cell t ht; have hcs7 := hk.cell (p := ⟨H, t * 5, none⟩) x0 (HA.out.na (Nat.le_of_lt hGH)); have hcs7b := hk.cell (p := ⟨H, t * 5 + 1, none⟩) x1 (HA.out.na (Nat.le_of_lt hGH)); have hcs7c := hk.cell (p := ⟨H, t * 5 + 2, none⟩) x2 (HA.out.na (Nat.le_of_lt hGH)); have hcs7d := hk.cell (p := ⟨H, t * 5 + 3, none⟩) x3 (HA.out.na (Nat.le_of_lt hGH)); have hcs7e := hk.cell (p := ⟨H, t * 5 + 4, none⟩) x4 (HA.out.na (Nat.le_of_lt hGH)); obtain ⟨F0, F1, F2, F3, F4⟩ := hX7.x.frees t; have hl7 := hX7.x.lt; have hQ7 := hX7.put HA.out (Nat.le_of_lt hGH) ht ⟨t', l', 1, r', x'⟩; have hV8 := hV7.setH (Nat.lt_succ_self H) t ⟨t', l', 1, r', x'⟩; have hC8 := hC7.setH (Nat.lt_succ_self H) t ⟨t', l', 1, r', x'⟩; have hz7 := hQ7.x.at ht (show hput _ t _ t = _ from hput_at _ _ _); unfold setH at hQ7 hV8 hC8 hz7; dsimp only at hQ7 hV8 hC8 hz7; have HQ := Lib.hid hQ7; have HRV7 := Lib.hid hV8; have HRC7 := Lib.hid hC8; clear hA7 hQ7 hV8 hC8 hm hX7 hV7 hC7
                (try go_wp2_with fail)
                refine hkC.out _ _ (⟨⟨hcs7, hcs7b, hcs7c, hcs7d, hcs7e⟩, m7⟩) (trivial) (fun hK => ?_)
                clear hkC kC
                try simp only [Act.put, List.setIfInBounds_toArray, List.set_cons_zero, List.set_cons_succ]
                refine wpAnyK_take1 (i := 7) (v := ?_) (by simp only [List.getElem?_toArray, List.getElem?_cons_succ, List.getElem?_cons_zero]; rfl) (by kernel_rfl) (by kernel_rfl) (by kernel_rfl) (by kernel_rfl) (by kernel_rfl) (by kernel_rfl) (by exact fun _ _ _ h => h) (Or.inl ⟨by rfl, ?_⟩) (hK _) ?_
                rotate_left
                · intro w hSw; (try dsimp only at hSw); go_simp; (try with_reducible rfl)
                try simp only [Act.put, List.setIfInBounds_toArray, List.set_cons_zero, List.set_cons_succ]
                refine wpAnyK_last (i := 8) (by kernel_rfl) (by simp only [List.getElem?_toArray, List.getElem?_cons_succ, List.getElem?_cons_zero]; rfl) (by kernel_rfl) (by kernel_rfl) (fun kC hkC => ?_)
                go_simp
                refine hkC.out _ _ ?_
                clear hkC kC
                try simp only [Act.put, List.setIfInBounds_toArray, List.set_cons_zero, List.set_cons_succ]
                refine wpAnyK_done (by kernel_rfl) ?_ _
                generalize ((((w7.setCell ⟨H, t * 5, none⟩ (.int .i64 t')).setCell ⟨H, t * 5 + 1, none⟩ (.int .i64 l')).setCell ⟨H, t * 5 + 2, none⟩ (.int .i64 1)).setCell ⟨H, t * 5 + 3, none⟩ (.bool r')).setCell ⟨H, t * 5 + 4, none⟩ (.int .i64 x') = wz at *
                clear hcs7 hcs7b hcs7c hcs7d hcs7e F0 F1 F2 F3 F4 hl7 x0 x1 x2 x3 x4 m0 m1 m2 m3 m4 hXd HX HRV HRC m7 hk
                obtain ⟨z0, z1, z2, z3, z4⟩ := hz7
                have hzH := HQ.out.x.lt
                go_wp2_with fail
                go_roundw
                case rel => exact ⟨n + 1, s, nd, M', by omega, by go_num, HOI.out, HP.out.stay (fun h8 => (HO.out.at (by omega)).1) (fun hb h8 => HST.out hb h8 HCD.out), HQ.out.congr HCG.out, ⟨_, _, _, rfl, rfl⟩, HRV7.out, HRC7.out, HAV.out⟩
                case measure => simp [intOf]; omega
          · obtain ⟨t, ht'⟩ : ∃ t, n % 4 = t := ⟨_, rfl⟩
            have ht : t < 4 := by omega
            have hz : ((n : Int) % 4) = (t : Int) := by omega
            have hst : L.length ≤ n → s + nd < 8 → came.getD s 0 ≠ t → came.getD s 0 ≠ n % 4 := fun _ _ h => by rw [ht']; exact h
            clear ht'
            have t0 : (0 : Int) ≤ (t : Int) := by omega
            have t4 : (t : Int) < 4 := by omega
            obtain ⟨m0, m1, m2, m3, m4⟩ := HBm.out _ HX.out.t.s.kp
            obtain ⟨F0, F1, F2, F3, F4⟩ := HX.out.x.frees t
            have hl := HX.out.x.lt
            have HST := Lib.hid hst
            clear hst
            have hcs := HO.out.cases ht
            rcases hcs with ⟨he, hne⟩ | ⟨he, hs4, hd1, hdrop⟩ | ⟨he, htake⟩
            · obtain ⟨x0, x1, x2, x3, x4⟩ := HX.out.x.at ht he
              have HNE := Lib.hid hne
              clear he hne
              go_wp2_with fail
              go_roundw
              case rel => exact ⟨n + 1, s, nd, M, by omega, by go_num, HO.out, HP.out.stay (fun h8 => (HO.out.at (by omega)).1) (fun hb h8 => HST.out hb h8 (HNE.out (by omega))), HX.out, ⟨_, _, _, rfl, rfl⟩, HRV.out, HRC.out, HAV.out⟩
              case measure => simp [intOf]; omega
            · obtain ⟨x0, x1, x2, x3, x4⟩ := HX.out.x.at ht he
              obtain ⟨M', h', hd⟩ : ∃ M' h', tkDrop ⟨2, 2, 4, 0, 2⟩ M ⟨t, 0, 9, false, (s : Nat)⟩ = (M', h') := ⟨_, _, rfl⟩
              have hds := hdrop M' h' hd
              have HD1 := Lib.hid hd1
              clear hd1
              obtain ⟨t', l', s', r', x'⟩ := h'
              have HD := Lib.hid hd; have HDS := Lib.hid hds
              have hXd := HX.out.no ((Keeps.refl NoS _).drew)
              clear hd hds hdrop he
              go_wp2_with fail
              refine wp_region_kept_drew 8 (fun w' => (w'.cell? ⟨H, t * 5, none⟩ = some (.int .i64 t) ∧ w'.cell? ⟨H, t * 5 + 1, none⟩ = some (.int .i64 0) ∧ w'.cell? ⟨H, t * 5 + 2, none⟩ = some (.int .i64 9) ∧ w'.cell? ⟨H, t * 5 + 3, none⟩ = some (.bool false) ∧ w'.cell? ⟨H, t * 5 + 4, none⟩ = some (.int .i64 s)) ∧ (w'.cell? ⟨B, 0, none⟩ = some (.int .i64 2) ∧ w'.cell? ⟨B, 1, none⟩ = some (.int .i64 2) ∧ w'.cell? ⟨B, 2, none⟩ = some (.int .i64 4) ∧ w'.cell? ⟨B, 3, none⟩ = some (.int .i64 0) ∧ w'.cell? ⟨B, 4, none⟩ = some (.int .i64 2))) 8 (fun _ => True) (by kernel_rfl) (⟨⟨x0, x1, x2, x3, x4⟩, ⟨m0, m1, m2, m3, m4⟩⟩) (trivial) (fun hK => ?_)
              refine wpAnyK_take1 (i := 0) (v := ?_) (by simp only [List.getElem?_toArray, List.getElem?_cons_succ, List.getElem?_cons_zero]; rfl) (by kernel_rfl) (by kernel_rfl) (by kernel_rfl) (by kernel_rfl) (by kernel_rfl) (by kernel_rfl) (by exact fun _ _ _ h => h) (Or.inl ⟨by rfl, ?_⟩) (hK _) ?_
              rotate_left
              · intro w hSw; (try dsimp only at hSw); go_simp; (try with_reducible rfl)
              try simp only [Act.put, List.setIfInBounds_toArray, List.set_cons_zero, List.set_cons_succ]
              refine wpAnyK_take1 (i := 1) (v := ?_) (by simp only [List.getElem?_toArray, List.getElem?_cons_succ, List.getElem?_cons_zero]; rfl) (by kernel_rfl) (by kernel_rfl) (by kernel_rfl) (by kernel_rfl) (by kernel_rfl) (by kernel_rfl) (by exact fun _ _ _ h => h) (Or.inl ⟨by rfl, ?_⟩) (hK _) ?_
              rotate_left
              · intro w hSw; (try dsimp only at hSw); go_simp; (try with_reducible rfl)
              try simp only [Act.put, List.setIfInBounds_toArray, List.set_cons_zero, List.set_cons_succ]
              refine wpAnyK_take1 (i := 2) (v := ?_) (by simp only [List.getElem?_toArray, List.getElem?_cons_succ, List.getElem?_cons_zero]; rfl) (by kernel_rfl) (by kernel_rfl) (by kernel_rfl) (by kernel_rfl) (by kernel_rfl) (by kernel_rfl) (by exact fun _ _ _ h => h) (Or.inl ⟨by rfl, ?_⟩) (hK _) ?_
              rotate_left
              · intro w hSw; (try dsimp only at hSw); go_simp; (try with_reducible rfl)
              try simp only [Act.put, List.setIfInBounds_toArray, List.set_cons_zero, List.set_cons_succ]
              refine wpAnyK_take1 (i := 3) (v := ?_) (by simp only [List.getElem?_toArray, List.getElem?_cons_succ, List.getElem?_cons_zero]; rfl) (by kernel_rfl) (by kernel_rfl) (by kernel_rfl) (by kernel_rfl) (by kernel_rfl) (by kernel_rfl) (by exact fun _ _ _ h => h) (Or.inl ⟨by rfl, ?_⟩) (hK _) ?_
              rotate_left
              · intro w hSw; (try dsimp only at hSw); go_simp; (try with_reducible rfl)
              try simp only [Act.put, List.setIfInBounds_toArray, List.set_cons_zero, List.set_cons_succ]
              refine wpAnyK_take1 (i := 4) (v := ?_) (by simp only [List.getElem?_toArray, List.getElem?_cons_succ, List.getElem?_cons_zero]; rfl) (by kernel_rfl) (by kernel_rfl) (by kernel_rfl) (by kernel_rfl) (by kernel_rfl) (by kernel_rfl) (by exact fun _ _ _ h => h) (Or.inl ⟨by rfl, ?_⟩) (hK _) ?_
              rotate_left
              · intro w hSw; (try dsimp only at hSw); go_simp; (try with_reducible rfl)
              try simp only [Act.put, List.setIfInBounds_toArray, List.set_cons_zero, List.set_cons_succ]
              refine wpAnyK_take1 (i := 5) (v := ?_) (by simp only [List.getElem?_toArray, List.getElem?_cons_succ, List.getElem?_cons_zero]; rfl) (by kernel_rfl) (by kernel_rfl) (by kernel_rfl) (by kernel_rfl) (by kernel_rfl) (by kernel_rfl) (by exact fun _ _ _ h => h) (Or.inl ⟨by rfl, ?_⟩) (hK _) ?_
              rotate_left
              · intro w hSw; (try dsimp only at hSw); go_simp; (try with_reducible rfl)
              try simp only [Act.put, List.setIfInBounds_toArray, List.set_cons_zero, List.set_cons_succ]
              refine wpAnyK_one (i := 6) (by kernel_rfl) (by simp only [List.getElem?_toArray, List.getElem?_cons_succ, List.getElem?_cons_zero]; rfl) (fun kC hkC => ?_)
              go_simp
              refine (drop_any 2 2 4 0 2 t 0 9 false s a v M _ hXd.t.s.m).mono ?_; rw [HD.out]; unfold handV; dsimp only; rintro e w7 ⟨rfl, hm, hk⟩; have hX7 := hXd.turn HA.out (Nat.le_of_lt hGH) hm hk; have hV7 := (HRV.out.no ((Keeps.refl NoS _).drew)).ownK HA.out (by omega) hk; have hC7 := (HRC.out.no ((Keeps.refl NoS _).drew)).ownK HA.out (by omega) hk; have m7 := HBm.out _ hX7.t.s.kp; have hA7 := hX7.x.cell t ht; have hcs7 := hk.cell (p := ⟨H, t * 5, none⟩) x0 (HA.out.na (Nat.le_of_lt hGH)); have hcs7b := hk.cell (p := ⟨H, t * 5 + 1, none⟩) x1 (HA.out.na (Nat.le_of_lt hGH)); have hcs7c := hk.cell (p := ⟨H, t * 5 + 2, none⟩) x2 (HA.out.na (Nat.le_of_lt hGH)); have hcs7d := hk.cell (p := ⟨H, t * 5 + 3, none⟩) x3 (HA.out.na (Nat.le_of_lt hGH)); have hcs7e := hk.cell (p := ⟨H, t * 5 + 4, none⟩) x4 (HA.out.na (Nat.le_of_lt hGH)); obtain ⟨F0, F1, F2, F3, F4⟩ := hX7.x.frees t; have hl7 := hX7.x.lt; have hQ7 := hX7.put HA.out (Nat.le_of_lt hGH) ht ⟨t', l', s', r', x'⟩; have hV8 := hV7.setH (Nat.lt_succ_self H) t ⟨t', l', s', r', x'⟩; have hC8 := hC7.setH (Nat.lt_succ_self H) t ⟨t', l', s', r', x'⟩; have hz7 := hQ7.x.at ht (show hput _ t _ t = _ from hput_at _ _ _); unfold setH at hQ7 hV8 hC8 hz7; dsimp only at hQ7 hV8 hC8 hz7; have HQ := Lib.hid hQ7; have HRV7 := Lib.hid hV8; have HRC7 := Lib.hid hC8; clear hA7 hQ7 hV8 hC8 hm hX7 hV7 hC7
              (try go_wp2_with fail)
              refine hkC.out _ _ (⟨⟨hcs7, hcs7b, hcs7c, hcs7d, hcs7e⟩, m7⟩) (trivial) (fun hK => ?_)
              clear hkC kC
              try simp only [Act.put, List.setIfInBounds_toArray, List.set_cons_zero, List.set_cons_succ]
              refine wpAnyK_take1 (i := 7) (v := ?_) (by simp only [List.getElem?_toArray, List.getElem?_cons_succ, List.getElem?_cons_zero]; rfl) (by kernel_rfl) (by kernel_rfl) (by kernel_rfl) (by kernel_rfl) (by kernel_rfl) (by kernel_rfl) (by exact fun _ _ _ h => h) (Or.inl ⟨by rfl, ?_⟩) (hK _) ?_
              rotate_left
              · intro w hSw; (try dsimp only at hSw); go_simp; (try with_reducible rfl)
              try simp only [Act.put, List.setIfInBounds_toArray, List.set_cons_zero, List.set_cons_succ]
              refine wpAnyK_last (i := 8) (by kernel_rfl) (by simp only [List.getElem?_toArray, List.getElem?_cons_succ, List.getElem?_cons_zero]; rfl) (by kernel_rfl) (by kernel_rfl) (fun kC hkC => ?_)
              go_simp
              refine hkC.out _ _ ?_
              clear hkC kC
              try simp only [Act.put, List.setIfInBounds_toArray, List.set_cons_zero, List.set_cons_succ]
              refine wpAnyK_done (by kernel_rfl) ?_ _
              generalize ((((w7.setCell ⟨H, t * 5, none⟩ (.int .i64 t')).setCell ⟨H, t * 5 + 1, none⟩ (.int .i64 l')).setCell ⟨H, t * 5 + 2, none⟩ (.int .i64 s')).setCell ⟨H, t * 5 + 3, none⟩ (.bool r')).setCell ⟨H, t * 5 + 4, none⟩ (.int .i64 x') = wz at *
              clear hcs7 hcs7b hcs7c hcs7d hcs7e F0 F1 F2 F3 F4 hl7 x0 x1 x2 x3 x4 m0 m1 m2 m3 m4 hXd HX HRV HRC m7 hk
              obtain ⟨z0, z1, z2, z3, z4⟩ := hz7
              have hzH := HQ.out.x.lt
              go_wp2_with fail
              go_roundw
              case rel => exact ⟨n + 1, s + 1, nd, M', by omega, by go_num, HDS.out.1, (by have h := HP.out.adv (s' := s + 1); rwa [show s + nd + 1 = s + 1 + nd by omega] at h), HQ.out.congr HDS.out.2, ⟨_, _, _, rfl, rfl⟩, HRV7.out, HRC7.out, HAV.out⟩
              case measure => simp [intOf]; omega
            · obtain ⟨x0, x1, x2, x3, x4⟩ := HX.out.x.at ht he
              generalize List.idxOf t came = xi at *
              obtain ⟨M', h', hd⟩ : ∃ M' h', tkTake ⟨2, 2, 4, 0, 2⟩ M ⟨t, 0, 1, false, (xi : Nat)⟩ = (M', h') := ⟨_, _, rfl⟩
              have hds := htake M' h' hd
              obtain ⟨t', l', s', r', x'⟩ := h'
              dsimp only at hds
              have HD := Lib.hid hd
              have hXd := HX.out.no ((Keeps.refl NoS _).drew)
              clear hd htake he
              rcases hds with ⟨rfl, hds, hd4', hcd, hoi, hcg⟩ | ⟨rfl, hcd, hoi, hcg⟩
              · have HCD := Lib.hid hcd; have HOI := Lib.hid hoi; have HCG := Lib.hid hcg; have HDS := Lib.hid hds
                clear hcd hoi hcg hds
                go_wp2_with fail
                refine wp_region_kept_drew 8 (fun w' => (w'.cell? ⟨H, t * 5, none⟩ = some (.int .i64 t) ∧ w'.cell? ⟨H, t * 5 + 1, none⟩ = some (.int .i64 0) ∧ w'.cell? ⟨H, t * 5 + 2, none⟩ = some (.int .i64 1) ∧ w'.cell? ⟨H, t * 5 + 3, none⟩ = some (.bool false) ∧ w'.cell? ⟨H, t * 5 + 4, none⟩ = some (.int .i64 xi)) ∧ (w'.cell? ⟨B, 0, none⟩ = some (.int .i64 2) ∧ w'.cell? ⟨B, 1, none⟩ = some (.int .i64 2) ∧ w'.cell? ⟨B, 2, none⟩ = some (.int .i64 4) ∧ w'.cell? ⟨B, 3, none⟩ = some (.int .i64 0) ∧ w'.cell? ⟨B, 4, none⟩ = some (.int .i64 2))) 8 (fun _ => True) (by kernel_rfl) (⟨⟨x0, x1, x2, x3, x4⟩, ⟨m0, m1, m2, m3, m4⟩⟩) (trivial) (fun hK => ?_)
                refine wpAnyK_take1 (i := 0) (v := ?_) (by simp only [List.getElem?_toArray, List.getElem?_cons_succ, List.getElem?_cons_zero]; rfl) (by kernel_rfl) (by kernel_rfl) (by kernel_rfl) (by kernel_rfl) (by kernel_rfl) (by kernel_rfl) (by exact fun _ _ _ h => h) (Or.inl ⟨by rfl, ?_⟩) (hK _) ?_
                rotate_left
                · intro w hSw; (try dsimp only at hSw); go_simp; (try with_reducible rfl)
                try simp only [Act.put, List.setIfInBounds_toArray, List.set_cons_zero, List.set_cons_succ]
                refine wpAnyK_take1 (i := 1) (v := ?_) (by simp only [List.getElem?_toArray, List.getElem?_cons_succ, List.getElem?_cons_zero]; rfl) (by kernel_rfl) (by kernel_rfl) (by kernel_rfl) (by kernel_rfl) (by kernel_rfl) (by kernel_rfl) (by exact fun _ _ _ h => h) (Or.inl ⟨by rfl, ?_⟩) (hK _) ?_
                rotate_left
                · intro w hSw; (try dsimp only at hSw); go_simp; (try with_reducible rfl)
                try simp only [Act.put, List.setIfInBounds_toArray, List.set_cons_zero, List.set_cons_succ]
                refine wpAnyK_take1 (i := 2) (v := ?_) (by simp only [List.getElem?_toArray, List.getElem?_cons_succ, List.getElem?_cons_zero]; rfl) (by kernel_rfl) (by kernel_rfl) (by kernel_rfl) (by kernel_rfl) (by kernel_rfl) (by kernel_rfl) (by exact fun _ _ _ h => h) (Or.inl ⟨by rfl, ?_⟩) (hK _) ?_
                rotate_left
                · intro w hSw; (try dsimp only at hSw); go_simp; (try with_reducible rfl)
                try simp only [Act.put, List.setIfInBounds_toArray, List.set_cons_zero, List.set_cons_succ]
                refine wpAnyK_take1 (i := 3) (v := ?_) (by simp only [List.getElem?_toArray, List.getElem?_cons_succ, List.getElem?_cons_zero]; rfl) (by kernel_rfl) (by kernel_rfl) (by kernel_rfl) (by kernel_rfl) (by kernel_rfl) (by kernel_rfl) (by exact fun _ _ _ h => h) (Or.inl ⟨by rfl, ?_⟩) (hK _) ?_
                rotate_left
                · intro w hSw; (try dsimp only at hSw); go_simp; (try with_reducible rfl)
                try simp only [Act.put, List.setIfInBounds_toArray, List.set_cons_zero, List.set_cons_succ]
                refine wpAnyK_take1 (i := 4) (v := ?_) (by simp only [List.getElem?_toArray, List.getElem?_cons_succ, List.getElem?_cons_zero]; rfl) (by kernel_rfl) (by kernel_rfl) (by kernel_rfl) (by kernel_rfl) (by kernel_rfl) (by kernel_rfl) (by exact fun _ _ _ h => h) (Or.inl ⟨by rfl, ?_⟩) (hK _) ?_
                rotate_left
                · intro w hSw; (try dsimp only at hSw); go_simp; (try with_reducible rfl)
                try simp only [Act.put, List.setIfInBounds_toArray, List.set_cons_zero, List.set_cons_succ]
                refine wpAnyK_take1 (i := 5) (v := ?_) (by simp only [List.getElem?_toArray, List.getElem?_cons_succ, List.getElem?_cons_zero]; rfl) (by kernel_rfl) (by kernel_rfl) (by kernel_rfl) (by kernel_rfl) (by kernel_rfl) (by kernel_rfl) (by exact fun _ _ _ h => h) (Or.inl ⟨by rfl, ?_⟩) (hK _) ?_
                rotate_left
                · intro w hSw; (try dsimp only at hSw); go_simp; (try with_reducible rfl)
                try simp only [Act.put, List.setIfInBounds_toArray, List.set_cons_zero, List.set_cons_succ]
                refine wpAnyK_one (i := 6) (by kernel_rfl) (by simp only [List.getElem?_toArray, List.getElem?_cons_succ, List.getElem?_cons_zero]; rfl) (fun kC hkC => ?_)
                go_simp
                refine (take_any 2 2 4 0 2 t 0 1 false xi a v M _ hXd.t.s.m).mono ?_; rw [HD.out]; unfold handV; dsimp only; rintro e w7 ⟨rfl, hm, hk⟩; have hX7 := hXd.turn HA.out (Nat.le_of_lt hGH) hm hk; have hV7 := (HRV.out.no ((Keeps.refl NoS _).drew)).ownK HA.out (by omega) hk; have hC7 := (HRC.out.no ((Keeps.refl NoS _).drew)).ownK HA.out (by omega) hk; have m7 := HBm.out _ hX7.t.s.kp; have hA7 := hX7.x.cell t ht; have hcs7 := hk.cell (p := ⟨H, t * 5, none⟩) x0 (HA.out.na (Nat.le_of_lt hGH)); have hcs7b := hk.cell (p := ⟨H, t * 5 + 1, none⟩) x1 (HA.out.na (Nat.le_of_lt hGH)); have hcs7c := hk.cell (p := ⟨H, t * 5 + 2, none⟩) x2 (HA.out.na (Nat.le_of_lt hGH)); have hcs7d := hk.cell (p := ⟨H, t * 5 + 3, none⟩) x3 (HA.out.na (Nat.le_of_lt hGH)); have hcs7e := hk.cell (p := ⟨H, t * 5 + 4, none⟩) x4 (HA.out.na (Nat.le_of_lt hGH)); obtain ⟨F0, F1, F2, F3, F4⟩ := hX7.x.frees t; have hl7 := hX7.x.lt; have hQ7 := hX7.put HA.out (Nat.le_of_lt hGH) ht ⟨t', l', 9, r', x'⟩; have hV8 := hV7.setH (Nat.lt_succ_self H) t ⟨t', l', 9, r', x'⟩; have hC8 := hC7.setH (Nat.lt_succ_self H) t ⟨t', l', 9, r', x'⟩; have hz7 := hQ7.x.at ht (show hput _ t _ t = _ from hput_at _ _ _); unfold setH at hQ7 hV8 hC8 hz7; dsimp only at hQ7 hV8 hC8 hz7; have HQ := Lib.hid hQ7; have HRV7 := Lib.hid hV8; have HRC7 := Lib.hid hC8; clear hA7 hQ7 hV8 hC8 hm hX7 hV7 hC7
                (try go_wp2_with fail)
                refine hkC.out _ _ (⟨⟨hcs7, hcs7b, hcs7c, hcs7d, hcs7e⟩, m7⟩) (trivial) (fun hK => ?_)
                clear hkC kC
                try simp only [Act.put, List.setIfInBounds_toArray, List.set_cons_zero, List.set_cons_succ]
                refine wpAnyK_take1 (i := 7) (v := ?_) (by simp only [List.getElem?_toArray, List.getElem?_cons_succ, List.getElem?_cons_zero]; rfl) (by kernel_rfl) (by kernel_rfl) (by kernel_rfl) (by kernel_rfl) (by kernel_rfl) (by kernel_rfl) (by exact fun _ _ _ h => h) (Or.inl ⟨by rfl, ?_⟩) (hK _) ?_
                rotate_left
                · intro w hSw; (try dsimp only at hSw); go_simp; (try with_reducible rfl)
                try simp only [Act.put, List.setIfInBounds_toArray, List.set_cons_zero, List.set_cons_succ]
                refine wpAnyK_last (i := 8) (by kernel_rfl) (by simp only [List.getElem?_toArray, List.getElem?_cons_succ, List.getElem?_cons_zero]; rfl) (by kernel_rfl) (by kernel_rfl) (fun kC hkC => ?_)
                go_simp
                refine hkC.out _ _ ?_
                clear hkC kC
                try simp only [Act.put, List.setIfInBounds_toArray, List.set_cons_zero, List.set_cons_succ]
                refine wpAnyK_done (by kernel_rfl) ?_ _
                generalize ((((w7.setCell ⟨H, t * 5, none⟩ (.int .i64 t')).setCell ⟨H, t * 5 + 1, none⟩ (.int .i64 l')).setCell ⟨H, t * 5 + 2, none⟩ (.int .i64 9)).setCell ⟨H, t * 5 + 3, none⟩ (.bool r')).setCell ⟨H, t * 5 + 4, none⟩ (.int .i64 x') = wz at *
                clear hcs7 hcs7b hcs7c hcs7d hcs7e F0 F1 F2 F3 F4 hl7 x0 x1 x2 x3 x4 m0 m1 m2 m3 m4 hXd HX HRV HRC m7 hk
                obtain ⟨z0, z1, z2, z3, z4⟩ := hz7
                have hzH := HQ.out.x.lt
                have hrow := HRV7.out.no ((Keeps.refl NoS wz).alloc (.cells #[.int .i64 t] 3))
                have hzc := cells_new wz [.int .i64 t] 3 0 (.int .i64 t) rfl
                rw [add_zero_off] at hzc
                have hncl : (natsI (came.take nd)).length ≤ 10000 := by rw [natsI_len, List.length_take]; omega
                have hvl := fun g' (h : (Value.slice pv nd cd).ownBlock = some g') => HRV7.out.lt h
                have hcl := fun g' (h : (Value.slice pc 4 capc).ownBlock = some g') => HRC7.out.lt h
                have HROW := Lib.hid hrow; have HZC := Lib.hid hzc; have HNL := Lib.hid hncl; have HVL := Lib.hid hvl; have HCL := Lib.hid hcl
                clear hrow hzc hncl hvl hcl
                go_wp2_with (at_builtin; go_loud (refine wpList_row1 HIT.out _ rfl (.tmp 119) (.tmp 121) rfl (H + 1) _ (natsI (came.take nd)) rfl HROW.out wz.heap.size _ (t : Int) rfl HZC.out HNL.out (by simp; omega) ?_); intro v9 w9 hr9 hg9 hb9)
                have hX9 := ((HQ.out.no ((Keeps.refl NoS wz).alloc (.cells #[.int .i64 t] 3))).grown HA.out (Nat.le_of_lt hGH) hg9 (fun g' h => by have := HRV7.out.lo g' h; omega)).congr HCG.out
                have hR9 := (HRC7.out.no ((Keeps.refl NoS wz).alloc (.cells #[.int .i64 t] 3))).grown hg9 (fun g' h h2 => HAV.out g' h2 h)
                have hr9' : RowI 3 w9 (H + 1) v9 (natsI (came.take (nd + 1))) := by
                  rw [take_snoc_getD (by rw [HO.out.lc]; exact hd4'), natsI_app, HCD.out]; exact hr9
                obtain ⟨p9, c9, hv9⟩ := hr9'.slice
                have hlen9 : (natsI (came.take (nd + 1))).length = nd + 1 := by rw [natsI_len, List.length_take, HO.out.lc]; omega
                rw [hlen9] at hv9
                have ha9 : ∀ g, v9.ownBlock = some g → (Value.slice pc 4 capc).ownBlock ≠ some g := fun g' h2 h => by
                  rcases hb9 g' h2 with h3 | h3
                  · exact HAV.out g' h3 h
                  · have := HCL.out g' h; simp at h3; omega
                have HX9 := Lib.hid hX9; have HR9 := Lib.hid hR9; have HC9 := Lib.hid hr9'; have HA9 := Lib.hid ha9; have HV9 := Lib.hid hv9
                clear hX9 hR9 hr9' ha9 hv9 hr9 hg9 hb9 hlen9
                go_roundw
                case rel => exact ⟨n + 1, s, nd + 1, M', by omega, by go_num, HOI.out, (by have h := HP.out.adv (s' := s); rwa [show s + nd + 1 = s + (nd + 1) by omega] at h), HX9.out, ⟨_, _, _, rfl, HV9.out⟩, HC9.out, HR9.out, HA9.out⟩
                case measure => simp [intOf]; omega
              · have HCD := Lib.hid hcd; have HOI := Lib.hid hoi; have HCG := Lib.hid hcg
                clear hcd hoi hcg
                go_wp2_with fail
                refine wp_region_kept_drew 8 (fun w' => (w'.cell? ⟨H, t * 5, none⟩ = some (.int .i64 t) ∧ w'.cell? ⟨H, t * 5 + 1, none⟩ = some (.int .i64 0) ∧ w'.cell? ⟨H, t * 5 + 2, none⟩ = some (.int .i64 1) ∧ w'.cell? ⟨H, t * 5 + 3, none⟩ = some (.bool false) ∧ w'.cell? ⟨H, t * 5 + 4, none⟩ = some (.int .i64 xi)) ∧ (w'.cell? ⟨B, 0, none⟩ = some (.int .i64 2) ∧ w'.cell? ⟨B, 1, none⟩ = some (.int .i64 2) ∧ w'.cell? ⟨B, 2, none⟩ = some (.int .i64 4) ∧ w'.cell? ⟨B, 3, none⟩ = some (.int .i64 0) ∧ w'.cell? ⟨B, 4, none⟩ = some (.int .i64 2))) 8 (fun _ => True) (by kernel_rfl) (⟨⟨x0, x1, x2, x3, x4⟩, ⟨m0, m1, m2, m3, m4⟩⟩) (trivial) (fun hK => ?_)
                refine wpAnyK_take1 (i := 0) (v := ?_) (by simp only [List.getElem?_toArray, List.getElem?_cons_succ, List.getElem?_cons_zero]; rfl) (by kernel_rfl) (by kernel_rfl) (by kernel_rfl) (by kernel_rfl) (by kernel_rfl) (by kernel_rfl) (by exact fun _ _ _ h => h) (Or.inl ⟨by rfl, ?_⟩) (hK _) ?_
                rotate_left
                · intro w hSw; (try dsimp only at hSw); go_simp; (try with_reducible rfl)
                try simp only [Act.put, List.setIfInBounds_toArray, List.set_cons_zero, List.set_cons_succ]
                refine wpAnyK_take1 (i := 1) (v := ?_) (by simp only [List.getElem?_toArray, List.getElem?_cons_succ, List.getElem?_cons_zero]; rfl) (by kernel_rfl) (by kernel_rfl) (by kernel_rfl) (by kernel_rfl) (by kernel_rfl) (by kernel_rfl) (by exact fun _ _ _ h => h) (Or.inl ⟨by rfl, ?_⟩) (hK _) ?_
                rotate_left
                · intro w hSw; (try dsimp only at hSw); go_simp; (try with_reducible rfl)
                try simp only [Act.put, List.setIfInBounds_toArray, List.set_cons_zero, List.set_cons_succ]
                refine wpAnyK_take1 (i := 2) (v := ?_) (by simp only [List.getElem?_toArray, List.getElem?_cons_succ, List.getElem?_cons_zero]; rfl) (by kernel_rfl) (by kernel_rfl) (by kernel_rfl) (by kernel_rfl) (by kernel_rfl) (by kernel_rfl) (by exact fun _ _ _ h => h) (Or.inl ⟨by rfl, ?_⟩) (hK _) ?_
                rotate_left
                · intro w hSw; (try dsimp only at hSw); go_simp; (try with_reducible rfl)
                try simp only [Act.put, List.setIfInBounds_toArray, List.set_cons_zero, List.set_cons_succ]
                refine wpAnyK_take1 (i := 3) (v := ?_) (by simp only [List.getElem?_toArray, List.getElem?_cons_succ, List.getElem?_cons_zero]; rfl) (by kernel_rfl) (by kernel_rfl) (by kernel_rfl) (by kernel_rfl) (by kernel_rfl) (by kernel_rfl) (by exact fun _ _ _ h => h) (Or.inl ⟨by rfl, ?_⟩) (hK _) ?_
                rotate_left
                · intro w hSw; (try dsimp only at hSw); go_simp; (try with_reducible rfl)
                try simp only [Act.put, List.setIfInBounds_toArray, List.set_cons_zero, List.set_cons_succ]
                refine wpAnyK_take1 (i := 4) (v := ?_) (by simp only [List.getElem?_toArray, List.getElem?_cons_succ, List.getElem?_cons_zero]; rfl) (by kernel_rfl) (by kernel_rfl) (by kernel_rfl) (by kernel_rfl) (by kernel_rfl) (by kernel_rfl) (by exact fun _ _ _ h => h) (Or.inl ⟨by rfl, ?_⟩) (hK _) ?_
                rotate_left
                · intro w hSw; (try dsimp only at hSw); go_simp; (try with_reducible rfl)
                try simp only [Act.put, List.setIfInBounds_toArray, List.set_cons_zero, List.set_cons_succ]
                refine wpAnyK_take1 (i := 5) (v := ?_) (by simp only [List.getElem?_toArray, List.getElem?_cons_succ, List.getElem?_cons_zero]; rfl) (by kernel_rfl) (by kernel_rfl) (by kernel_rfl) (by kernel_rfl) (by kernel_rfl) (by kernel_rfl) (by exact fun _ _ _ h => h) (Or.inl ⟨by rfl, ?_⟩) (hK _) ?_
                rotate_left
                · intro w hSw; (try dsimp only at hSw); go_simp; (try with_reducible rfl)
                try simp only [Act.put, List.setIfInBounds_toArray, List.set_cons_zero, List.set_cons_succ]
                refine wpAnyK_one (i := 6) (by kernel_rfl) (by simp only [List.getElem?_toArray, List.getElem?_cons_succ, List.getElem?_cons_zero]; rfl) (fun kC hkC => ?_)
                go_simp
                refine (take_any 2 2 4 0 2 t 0 1 false xi a v M _ hXd.t.s.m).mono ?_; rw [HD.out]; unfold handV; dsimp only; rintro e w7 ⟨rfl, hm, hk⟩; have hX7 := hXd.turn HA.out (Nat.le_of_lt hGH) hm hk; have hV7 := (HRV.out.no ((Keeps.refl NoS _).drew)).ownK HA.out (by omega) hk; have hC7 := (HRC.out.no ((Keeps.refl NoS _).drew)).ownK HA.out (by omega) hk; have m7 := HBm.out _ hX7.t.s.kp; have hA7 := hX7.x.cell t ht; have hcs7 := hk.cell (p := ⟨H, t * 5, none⟩) x0 (HA.out.na (Nat.le_of_lt hGH)); have hcs7b := hk.cell (p := ⟨H, t * 5 + 1, none⟩) x1 (HA.out.na (Nat.le_of_lt hGH)); have hcs7c := hk.cell (p := ⟨H, t * 5 + 2, none⟩) x2 (HA.out.na (Nat.le_of_lt hGH)); have hcs7d := hk.cell (p := ⟨H, t * 5 + 3, none⟩) x3 (HA.out.na (Nat.le_of_lt hGH)); have hcs7e := hk.cell (p := ⟨H, t * 5 + 4, none⟩) x4 (HA.out.na (Nat.le_of_lt hGH)); obtain ⟨F0, F1, F2, F3, F4⟩ := hX7.x.frees t; have hl7 := hX7.x.lt; have hQ7 := hX7.put HA.out (Nat.le_of_lt hGH) ht ⟨t', l', 1, r', x'⟩; have hV8 := hV7.setH (Nat.lt_succ_self H) t ⟨t', l', 1, r', x'⟩; have hC8 := hC7.setH (Nat.lt_succ_self H) t ⟨t', l', 1, r', x'⟩; have hz7 := hQ7.x.at ht (show hput _ t _ t = _ from hput_at _ _ _); unfold setH at hQ7 hV8 hC8 hz7; dsimp only at hQ7 hV8 hC8 hz7; have HQ := Lib.hid hQ7; have HRV7 := Lib.hid hV8; have HRC7 := Lib.hid hC8; clear hA7 hQ7 hV8 hC8 hm hX7 hV7 hC7
                (try go_wp2_with fail)
                refine hkC.out _ _ (⟨⟨hcs7, hcs7b, hcs7c, hcs7d, hcs7e⟩, m7⟩) (trivial) (fun hK => ?_)
                clear hkC kC
                try simp only [Act.put, List.setIfInBounds_toArray, List.set_cons_zero, List.set_cons_succ]
                refine wpAnyK_take1 (i := 7) (v := ?_) (by simp only [List.getElem?_toArray, List.getElem?_cons_succ, List.getElem?_cons_zero]; rfl) (by kernel_rfl) (by kernel_rfl) (by kernel_rfl) (by kernel_rfl) (by kernel_rfl) (by kernel_rfl) (by exact fun _ _ _ h => h) (Or.inl ⟨by rfl, ?_⟩) (hK _) ?_
                rotate_left
                · intro w hSw; (try dsimp only at hSw); go_simp; (try with_reducible rfl)
                try simp only [Act.put, List.setIfInBounds_toArray, List.set_cons_zero, List.set_cons_succ]
                refine wpAnyK_last (i := 8) (by kernel_rfl) (by simp only [List.getElem?_toArray, List.getElem?_cons_succ, List.getElem?_cons_zero]; rfl) (by kernel_rfl) (by kernel_rfl) (fun kC hkC => ?_)
                go_simp
                refine hkC.out _ _ ?_
                clear hkC kC
                try simp only [Act.put, List.setIfInBounds_toArray, List.set_cons_zero, List.set_cons_succ]
                refine wpAnyK_done (by kernel_rfl) ?_ _
                generalize ((((w7.setCell ⟨H, t * 5, none⟩ (.int .i64 t')).setCell ⟨H, t * 5 + 1, none⟩ (.int .i64 l')).setCell ⟨H, t * 5 + 2, none⟩ (.int .i64 1)).setCell ⟨H, t * 5 + 3, none⟩ (.bool r')).setCell ⟨H, t * 5 + 4, none⟩ (.int .i64 x') = wz at *
                clear hcs7 hcs7b hcs7c hcs7d hcs7e F0 F1 F2 F3 F4 hl7 x0 x1 x2 x3 x4 m0 m1 m2 m3 m4 hXd HX HRV HRC m7 hk
                obtain ⟨z0, z1, z2, z3, z4⟩ := hz7
                have hzH := HQ.out.x.lt
                go_wp2_with fail
                go_roundw
                case rel => exact ⟨n + 1, s, nd, M', by omega, by go_num, HOI.out, HP.out.stay (fun h8 => (HO.out.at (by omega)).1) (fun hb h8 => HST.out hb h8 HCD.out), HQ.out.congr HCG.out, ⟨_, _, _, rfl, rfl⟩, HRV7.out, HRC7.out, HAV.out⟩
                case measure => simp [intOf]; omega
        · obtain rfl : n = L.length + 40 := by omega
          have h8 := HP.out.fin
          obtain rfl : s = 4 := by have := HO.out.ds; omega
          obtain rfl : nd = 4 := by omega
          have hc4 : came.take 4 = came := List.take_of_length_le (by rw [HO.out.lc]; omega)
          have hrv := HRV.out
          rw [hc4] at hrv
          obtain ⟨gv, cv', hfv, _, _, _, _, hvc⟩ := hrv.form (by rw [natsI_len, HO.out.lc]; decide)
          obtain ⟨gc, cc', hfc, _, _, _, _, hcc⟩ := HRC.out.form (by rw [natsI_len, HO.out.lc]; decide)
          simp only [Value.slice.injEq] at hfv hfc
          obtain ⟨rfl, hj1, rfl⟩ := hfv
          obtain ⟨rfl, hj2, rfl⟩ := hfc
          have HVC := Lib.hid hvc; have HCC := Lib.hid hcc
          clear hj1 hj2 hvc hcc hrv hc4 h8 HRV HP
          have hn4 : ((L.length + 40 : Nat) : Int) = (L.length : Int) + 40 := by omega
          rw [hn4]
          clear hn4
          go_wp2_with fail
          go_loopw [18] (fun kv wq => ∃ k : Nat, k ≤ 4 ∧ kv = .int .i64 k ∧ Keeps NoS wr wq) (fun kv _ => 4 - (intOf kv).toNat)
          case atStart => exact ⟨0, by omega, rfl, Keeps.refl _ _⟩
          case round =>
            obtain ⟨k, hk, rfl, hkw⟩ := hrel
            by_cases hk4 : k < 4
            · have k1 : (0 : Int) ≤ (k : Int) := by omega
              have k2 : (k : Int) < 4 := by omega
              have v1 := hkw.cell (HVC.out k (by rw [natsI_len, HO.out.lc]; exact hk4)) (fun f => f)
              have v2 := hkw.cell (HCC.out k (by rw [natsI_len, HO.out.lc]; exact hk4)) (fun f => f)
              generalize (natsI came).getD k 0 = y2 at v1 v2
              have HKW := Lib.hid hkw
              clear hkw
              go_wp2_with fail
              go_quiet (fail)
              go_wp2_with fail
              go_roundw
              case rel => exact ⟨k + 1, by omega, by go_num, HKW.out.trans (Keeps.drewNs _ _)⟩
              case measure => simp [intOf]; omega
            · obtain rfl : k = 4 := by omega
              have hXk := HX.out.no hkw
              have hidl : idleF ⟨2, 2, 4, 0, 2⟩ M 0 = true := by
                unfold idleF
                rw [lock8.2.2.1, lock8.2.2.2, m8_size, HO.out.len]
                have e1 : M.atP (5 : Int) = 4 := by
                  simp only [MemS.atP, MemS.inR, HO.out.len]
                  exact HO.out.nx
                have e2 : M.atP (6 : Int) = 4 := by
                  simp only [MemS.atP, MemS.inR, HO.out.len]
                  exact HO.out.sv
                rw [e1, e2]; rfl
              have HI := Lib.hid hidl; have HXk := Lib.hid hXk
              clear hidl hXk hkw
              go_wp2_with (go_at_call 14; refine (told8_any _).mono ?_; rintro e w8 ⟨rfl, hk8⟩; have hX8 := HXk.out.no hk8; obtain ⟨m0, m1, m2, m3, m4⟩ := HBm.out _ hX8.t.s.kp)
              refine (idle_any 2 2 4 0 2 0 a v M _ hX8.t.s.m).mono ?_
              rw [HI.out]
              rintro e w9 ⟨rfl, hk9⟩
              go_wp2_with fail
              go_ret
              exact ⟨rfl, HWk.out.trans (hX8.t.s.kp.trans hk9)⟩
end Go.Proofs.Ytodaiogefgdcpaa
