/- A writer that holds it is alone (the walk). -/
import Derived.Test.YtchgfdfdkcijnaaCrowdS
import Derived.Deep.LoopGhost
import Derived.Deep.DeepCutAuto
namespace Go.Proofs.Ytchgfdfdkcijnaa
open Go.RowKit
set_option maxHeartbeats 40000000 in
set_option maxRecDepth 100000 in
theorem rwAlone_walk (w : World) (p0 : Value) (L : List Int) (f0 : InI w p0 L) (_f1 : ∀ k, k < L.length → (Lit.int .i64 (L.getD k 0)).wf = true) : Calls Try.prog 7 #[p0] w fun e w' => e = .returned (.bool true) ∧ Keeps NoS w w' := by
  obtain ⟨p, cap, rfl, hn, hc, _⟩ := f0
  have HW := Lib.hid hc
  clear hc _f1
  by_cases hmax : L.length ≤ 300
  case neg =>
    go_enter Try.func7, Try.ntmps7
    have hmax' : (300 : Int) < (L.length : Int) := by omega
    go_wp2_with (go_at_call 37; refine (told10_any _).mono ?_; rintro e w1 ⟨rfl, hk1⟩)
    go_ret
    exact ⟨rfl, hk1⟩

  go_enter Try.func7, Try.ntmps7
  go_wp2_with (first
    | (go_at_call 13; refine (map8_any _).mono ?_; rintro e w1 ⟨rfl, hk1⟩))
  have hB := mapAt_new w1 2 2 4 0 2 25
  have hk1' := hk1.alloc (.cells #[.int .i64 2, .int .i64 2, .int .i64 4, .int .i64 0, .int .i64 2] 25)
  obtain ⟨B, hBe⟩ : ∃ B, w1.heap.size = B := ⟨_, rfl⟩
  rw [hBe] at hB
  rw [hBe]
  generalize w1.alloc (.cells #[.int .i64 2, .int .i64 2, .int .i64 4, .int .i64 0, .int .i64 2] 25) = W at *
  refine (both_any 2 2 4 0 2 48 m9_size (by decide) (by decide) W).mono ?_
  rintro e w2 ⟨a, c, v, u, rfl, hT⟩
  obtain ⟨w3, C, hw3, hC, hca, hco⟩ := ca_new hk1' hT hB
  have HCA := Lib.hid hca; have HO := Lib.hid hco; have HW3 := Lib.hid hw3; have HCe := Lib.hid hC
  clear hBe hk1 hk1' hT hB hw3 hC hca hco
  go_wp2_with fail
  rw [HW3.out]
  (try rw [HCe.out])
  clear HW3 HCe
  go_loopw [7] (fun iv wr => ∃ (i : Nat) (M : MemS) (f : Nat → HandS) (o : Nat → Bool) (n : Nat → Nat) (Q : List Nat) (A : QA), i ≤ L.length ∧ iv = .int .i64 i ∧ CA w wr a v B C M f o n ∧ RwS 1 M (fun _ => 0) [] Q A f ∧ OI f o ∧ ∀ j, j < 4 → n j ≤ i) (fun iv _ => L.length - (intOf iv).toNat)
  case atStart => exact ⟨0, _, _, _, _, [], _, by omega, rfl, HCA.out, RwS.start 1 _ (M0_len 48) M0_word _ _ (fun _ _ => Nat.zero_le _) rfl, OI.start, fun _ _ => Nat.le_refl _⟩
  case round =>
    obtain ⟨i, M, f, o, n, Q, A, hi, rfl, hx, hs, hoi, hnb⟩ := hrel
    have HX := Lib.hid hx; have HS := Lib.hid hs; have HOI := Lib.hid hoi; have HNA := Lib.hid hnb
    clear hx hs hoi hnb HCA
    by_cases hlt : i < L.length
    · have i0 : (0 : Int) ≤ (i : Int) := by omega
      obtain ⟨b, off, rfl, hcs⟩ := HW.out (fun e => by rw [e] at hlt; simp at hlt)
      have cn := HX.out.kp.cell (hcs i hlt) (fun f => f)
      have HCN := Lib.hid (fun w' (h : Keeps NoS w w') => h.cell (hcs i hlt) (fun f => f))
      clear hcs
      generalize L.getD i 0 = z at cn HCN
      obtain ⟨t, ht, hz⟩ := pick4 z
      have ht1 : (0 : Int) ≤ (t : Int) := by omega
      have ht2 : (t : Int) < 4 := by omega
      have HTW := Lib.hid (show IntKind.i64.wrap (t : Int) = (t : Int) from IntWalk.i64_in _ (by omega))
      have HL := Lib.hid HS.out.py.v.len
      have HNB := Lib.hid (show n t < 1000000 by have := HNA.out t ht; omega)
      go_wp2_with fail
      have hX1 := HX.out.no ((Keeps.refl NoS _).drew)
      refine wp_region_held_drew (S := (fun w' => (w'.cell? ⟨B, 0, none⟩ = some (.int .i64 2) ∧ w'.cell? ⟨B, 1, none⟩ = some (.int .i64 2) ∧ w'.cell? ⟨B, 2, none⟩ = some (.int .i64 4) ∧ w'.cell? ⟨B, 3, none⟩ = some (.int .i64 0) ∧ w'.cell? ⟨B, 4, none⟩ = some (.int .i64 2)) ∧ w'.cell? ⟨b, off + i, none⟩ = some (.int .i64 z))) (by kernel_rfl) (⟨mapCs hX1.mp, HCN.out _ hX1.kp⟩) (fun hHeld => ?_)
      refine wpAnyH_take (i := 0) (v := ?_) (by simp only [List.getElem?_toArray, List.getElem?_cons_succ, List.getElem?_cons_zero]; rfl) (by kernel_rfl) (by kernel_rfl) (by kernel_rfl) (by exact fun _ _ _ h => h) (Or.inl ⟨by rfl, ?_⟩) hHeld ?_
      rotate_left
      · intro w hSw; (try dsimp only at hSw); go_simp; (try with_reducible rfl)
      try simp only [Act.put, List.setIfInBounds_toArray, List.set_cons_zero, List.set_cons_succ]
      refine wpAnyH_take (i := 1) (v := ?_) (by simp only [List.getElem?_toArray, List.getElem?_cons_succ, List.getElem?_cons_zero]; rfl) (by kernel_rfl) (by kernel_rfl) (by kernel_rfl) (by exact fun _ _ _ h => h) (Or.inl ⟨by rfl, ?_⟩) hHeld ?_
      rotate_left
      · intro w hSw; (try dsimp only at hSw); go_simp; (try with_reducible rfl)
      try simp only [Act.put, List.setIfInBounds_toArray, List.set_cons_zero, List.set_cons_succ]
      refine wpAnyH_take (i := 2) (v := ?_) (by simp only [List.getElem?_toArray, List.getElem?_cons_succ, List.getElem?_cons_zero]; rfl) (by kernel_rfl) (by kernel_rfl) (by kernel_rfl) (by exact fun _ _ _ h => h) (Or.inl ⟨by rfl, ?_⟩) hHeld ?_
      rotate_left
      · intro w hSw; (try dsimp only at hSw); go_simp; (try with_reducible rfl)
      try simp only [Act.put, List.setIfInBounds_toArray, List.set_cons_zero, List.set_cons_succ]
      refine wpAnyH_take (i := 3) (v := ?_) (by simp only [List.getElem?_toArray, List.getElem?_cons_succ, List.getElem?_cons_zero]; rfl) (by kernel_rfl) (by kernel_rfl) (by kernel_rfl) (by exact fun _ _ _ h => h) (Or.inl ⟨by rfl, ?_⟩) hHeld ?_
      rotate_left
      · intro w hSw; (try dsimp only at hSw); go_simp; (try with_reducible rfl)
      try simp only [Act.put, List.setIfInBounds_toArray, List.set_cons_zero, List.set_cons_succ]
      refine wpAnyH_take (i := 4) (v := ?_) (by simp only [List.getElem?_toArray, List.getElem?_cons_succ, List.getElem?_cons_zero]; rfl) (by kernel_rfl) (by kernel_rfl) (by kernel_rfl) (by exact fun _ _ _ h => h) (Or.inl ⟨by rfl, ?_⟩) hHeld ?_
      rotate_left
      · intro w hSw; (try dsimp only at hSw); go_simp; (try with_reducible rfl)
      try simp only [Act.put, List.setIfInBounds_toArray, List.set_cons_zero, List.set_cons_succ]
      refine wpAnyH_take (i := 5) (v := ?_) (by simp only [List.getElem?_toArray, List.getElem?_cons_succ, List.getElem?_cons_zero]; rfl) (by kernel_rfl) (by kernel_rfl) (by kernel_rfl) (by exact fun _ _ _ h => h) (Or.inl ⟨by rfl, ?_⟩) hHeld ?_
      rotate_left
      · intro w hSw; (try dsimp only at hSw); go_simp; (try with_reducible rfl)
      try simp only [Act.put, List.setIfInBounds_toArray, List.set_cons_zero, List.set_cons_succ]
      refine wpAnyH_take (i := 6) (v := ?_) (by simp only [List.getElem?_toArray, List.getElem?_cons_succ, List.getElem?_cons_zero]; rfl) (by kernel_rfl) (by kernel_rfl) (by kernel_rfl) (by exact fun _ _ _ h => h) (Or.inl ⟨by rfl, ?_⟩) hHeld ?_
      rotate_left
      · intro w hSw; (try dsimp only at hSw); go_simp; (try with_reducible rfl)
      try simp only [Act.put, List.setIfInBounds_toArray, List.set_cons_zero, List.set_cons_succ]
      refine wpAnyH_take (i := 7) (v := ?_) (by simp only [List.getElem?_toArray, List.getElem?_cons_succ, List.getElem?_cons_zero]; rfl) (by kernel_rfl) (by kernel_rfl) (by kernel_rfl) (by exact fun _ _ _ h => h) (Or.inl ⟨by rfl, ?_⟩) hHeld ?_
      rotate_left
      · intro w hSw; (try dsimp only at hSw); go_simp; (try with_reducible rfl)
      try simp only [Act.put, List.setIfInBounds_toArray, List.set_cons_zero, List.set_cons_succ]
      refine wpAnyH_take (i := 8) (v := ?_) (by simp only [List.getElem?_toArray, List.getElem?_cons_succ, List.getElem?_cons_zero]; rfl) (by kernel_rfl) (by kernel_rfl) (by kernel_rfl) (by exact fun _ _ _ h => h) (Or.inl ⟨by rfl, ?_⟩) hHeld ?_
      rotate_left
      · intro w hSw; (try dsimp only at hSw); go_simp; (try with_reducible rfl)
      try simp only [Act.put, List.setIfInBounds_toArray, List.set_cons_zero, List.set_cons_succ]
      refine wpAnyH_take (i := 9) (v := ?_) (by simp only [List.getElem?_toArray, List.getElem?_cons_succ, List.getElem?_cons_zero]; rfl) (by kernel_rfl) (by kernel_rfl) (by kernel_rfl) (by exact fun _ _ _ h => h) (Or.inl ⟨by rfl, ?_⟩) hHeld ?_
      rotate_left
      · intro w hSw; (try dsimp only at hSw); go_simp; (try with_reducible rfl)
      try simp only [Act.put, List.setIfInBounds_toArray, List.set_cons_zero, List.set_cons_succ]
      refine wpAnyH_take (i := 10) (v := ?_) (by simp only [List.getElem?_toArray, List.getElem?_cons_succ, List.getElem?_cons_zero]; rfl) (by kernel_rfl) (by kernel_rfl) (by kernel_rfl) (by exact fun _ _ _ h => h) (Or.inl ⟨by rfl, ?_⟩) hHeld ?_
      rotate_left
      · intro w hSw; (try dsimp only at hSw); go_simp; (try with_reducible rfl)
      try simp only [Act.put, List.setIfInBounds_toArray, List.set_cons_zero, List.set_cons_succ]
      refine wpAnyH_take (i := 11) (v := ?_) (by simp only [List.getElem?_toArray, List.getElem?_cons_succ, List.getElem?_cons_zero]; rfl) (by kernel_rfl) (by kernel_rfl) (by kernel_rfl) (by exact fun _ _ _ h => h) (Or.inl ⟨by rfl, ?_⟩) hHeld ?_
      rotate_left
      · intro w hSw; (try dsimp only at hSw); go_simp; (try with_reducible rfl)
      try simp only [Act.put, List.setIfInBounds_toArray, List.set_cons_zero, List.set_cons_succ]
      refine wpAnyH_take (i := 12) (v := ?_) (by simp only [List.getElem?_toArray, List.getElem?_cons_succ, List.getElem?_cons_zero]; rfl) (by kernel_rfl) (by kernel_rfl) (by kernel_rfl) (by exact fun _ _ _ h => h) (Or.inl ⟨by rfl, ?_⟩) hHeld ?_
      rotate_left
      · intro w hSw; (try dsimp only at hSw); go_simp; (try with_reducible rfl)
      try simp only [Act.put, List.setIfInBounds_toArray, List.set_cons_zero, List.set_cons_succ]
      refine wpAnyH_take (i := 13) (v := ?_) (by simp only [List.getElem?_toArray, List.getElem?_cons_succ, List.getElem?_cons_zero]; rfl) (by kernel_rfl) (by kernel_rfl) (by kernel_rfl) (by exact fun _ _ _ h => h) (Or.inl ⟨by rfl, ?_⟩) hHeld ?_
      rotate_left
      · intro w hSw; (try dsimp only at hSw); go_simp; (try with_reducible rfl)
      try simp only [Act.put, List.setIfInBounds_toArray, List.set_cons_zero, List.set_cons_succ]
      refine wpAnyH_take (i := 14) (v := ?_) (by simp only [List.getElem?_toArray, List.getElem?_cons_succ, List.getElem?_cons_zero]; rfl) (by kernel_rfl) (by kernel_rfl) (by kernel_rfl) (by exact fun _ _ _ h => h) (Or.inl ⟨by rfl, ?_⟩) hHeld ?_
      rotate_left
      · intro w hSw; (try dsimp only at hSw); go_simp; (try with_reducible rfl)
      try simp only [Act.put, List.setIfInBounds_toArray, List.set_cons_zero, List.set_cons_succ]
      refine wpAnyH_take (i := 15) (v := ?_) (by simp only [List.getElem?_toArray, List.getElem?_cons_succ, List.getElem?_cons_zero]; rfl) (by kernel_rfl) (by kernel_rfl) (by kernel_rfl) (by exact fun _ _ _ h => h) (Or.inl ⟨by rfl, ?_⟩) hHeld ?_
      rotate_left
      · intro w hSw; (try dsimp only at hSw); go_simp; (try with_reducible rfl)
      try simp only [Act.put, List.setIfInBounds_toArray, List.set_cons_zero, List.set_cons_succ]
      refine wpAnyH_take (i := 16) (v := ?_) (by simp only [List.getElem?_toArray, List.getElem?_cons_succ, List.getElem?_cons_zero]; rfl) (by kernel_rfl) (by kernel_rfl) (by kernel_rfl) (by exact fun _ _ _ h => h) (Or.inl ⟨by rfl, ?_⟩) hHeld ?_
      rotate_left
      · intro w hSw; (try dsimp only at hSw); go_simp; (try with_reducible rfl)
      try simp only [Act.put, List.setIfInBounds_toArray, List.set_cons_zero, List.set_cons_succ]
      refine wpAnyH_take (i := 17) (v := ?_) (by simp only [List.getElem?_toArray, List.getElem?_cons_succ, List.getElem?_cons_zero]; rfl) (by kernel_rfl) (by kernel_rfl) (by kernel_rfl) (by exact fun _ _ _ h => h) (Or.inl ⟨by rfl, ?_⟩) hHeld ?_
      rotate_left
      · intro w hSw; (try dsimp only at hSw); go_simp; (try with_reducible rfl)
      try simp only [Act.put, List.setIfInBounds_toArray, List.set_cons_zero, List.set_cons_succ]
      refine wpAnyH_take (i := 18) (v := ?_) (by simp only [List.getElem?_toArray, List.getElem?_cons_succ, List.getElem?_cons_zero]; rfl) (by kernel_rfl) (by kernel_rfl) (by kernel_rfl) (by exact fun _ _ _ h => h) (Or.inl ⟨by rfl, ?_⟩) hHeld ?_
      rotate_left
      · intro w hSw; (try dsimp only at hSw); go_simp; (try with_reducible rfl)
      try simp only [Act.put, List.setIfInBounds_toArray, List.set_cons_zero, List.set_cons_succ]
      refine wpAnyH_take (i := 19) (v := ?_) (by simp only [List.getElem?_toArray, List.getElem?_cons_succ, List.getElem?_cons_zero]; rfl) (by kernel_rfl) (by kernel_rfl) (by kernel_rfl) (by exact fun _ _ _ h => h) (Or.inl ⟨by rfl, ?_⟩) hHeld ?_
      rotate_left
      · intro w hSw; (try dsimp only at hSw); go_simp; (try with_reducible rfl)
      try simp only [Act.put, List.setIfInBounds_toArray, List.set_cons_zero, List.set_cons_succ]
      refine wpAnyH_take (i := 20) (v := ?_) (by simp only [List.getElem?_toArray, List.getElem?_cons_succ, List.getElem?_cons_zero]; rfl) (by kernel_rfl) (by kernel_rfl) (by kernel_rfl) (by exact fun _ _ _ h => h) (Or.inl ⟨by rfl, ?_⟩) hHeld ?_
      rotate_left
      · intro w hSw; (try dsimp only at hSw); go_simp; (try with_reducible rfl)
      try simp only [Act.put, List.setIfInBounds_toArray, List.set_cons_zero, List.set_cons_succ]
      refine wpAnyH_take (i := 21) (v := ?_) (by simp only [List.getElem?_toArray, List.getElem?_cons_succ, List.getElem?_cons_zero]; rfl) (by kernel_rfl) (by kernel_rfl) (by kernel_rfl) (by exact fun _ _ _ h => h) (Or.inl ⟨by rfl, ?_⟩) hHeld ?_
      rotate_left
      · intro w hSw; (try dsimp only at hSw); go_simp; (try with_reducible rfl)
      try simp only [Act.put, List.setIfInBounds_toArray, List.set_cons_zero, List.set_cons_succ]
      refine wpAnyH_take (i := 22) (v := ?_) (by simp only [List.getElem?_toArray, List.getElem?_cons_succ, List.getElem?_cons_zero]; rfl) (by kernel_rfl) (by kernel_rfl) (by kernel_rfl) (by exact fun _ _ _ h => h) (Or.inl ⟨by rfl, ?_⟩) hHeld ?_
      rotate_left
      · intro w hSw; (try dsimp only at hSw); go_simp; (try with_reducible rfl)
      try simp only [Act.put, List.setIfInBounds_toArray, List.set_cons_zero, List.set_cons_succ]
      refine wpAnyH_take (i := 23) (v := ?_) (by simp only [List.getElem?_toArray, List.getElem?_cons_succ, List.getElem?_cons_zero]; rfl) (by kernel_rfl) (by kernel_rfl) (by kernel_rfl) (by exact fun _ _ _ h => h) (Or.inl ⟨by rfl, ?_⟩) hHeld ?_
      rotate_left
      · intro w hSw; (try dsimp only at hSw); go_simp; (try with_reducible rfl)
      try simp only [Act.put, List.setIfInBounds_toArray, List.set_cons_zero, List.set_cons_succ]
      refine wpAnyH_take (i := 24) (v := ?_) (by simp only [List.getElem?_toArray, List.getElem?_cons_succ, List.getElem?_cons_zero]; rfl) (by kernel_rfl) (by kernel_rfl) (by kernel_rfl) (by exact fun _ _ _ h => h) (Or.inl ⟨by rfl, ?_⟩) hHeld ?_
      rotate_left
      · intro w hSw; (try dsimp only at hSw); go_simp; (try with_reducible rfl)
      try simp only [Act.put, List.setIfInBounds_toArray, List.set_cons_zero, List.set_cons_succ]
      refine wpAnyH_ready (rs := [25]) (by kernel_rfl) (by simp) ?_
      refine AllReadyH.cons (by simp only [List.getElem?_toArray, List.getElem?_cons_succ, List.getElem?_cons_zero]; rfl) (fun kC hkC => ?_) AllReadyH.nil
      go_simp
      rw [HTW.out]; generalize ((IntKind.u64.wrap ((IntKind.u64.wrap z).tdiv 4)).tmod 2 == 0) = rd; generalize ((IntKind.u64.wrap ((IntKind.u64.wrap z).tdiv 8)).tmod 2 == 0) = lv; refine (step10_any C a v M f o n t ht rd lv _ hX1.cr hX1.hm HL.out HO.out.nc (HOI.out.so2 ht) HNB.out).mono ?_; rintro e w5 ⟨rfl, hm5, hc5, hk5⟩; have hX5 := hX1.step HO.out hm5 hc5 hk5; clear hm5 hc5 hk5
      (try go_wp2_with fail)
      refine hkC.out _ _ (⟨mapCs hX5.mp, HCN.out _ hX5.kp⟩) (fun hHeld => ?_)
      clear hkC kC
      try simp only [Act.put, List.setIfInBounds_toArray, List.set_cons_zero, List.set_cons_succ]
      refine wpAnyH_done (by kernel_rfl) ?_ _
      clear cn hz
      obtain ⟨Q', A', hs', hoi'⟩ := HS.out.go HOI.out ht rd lv
      have hna' := cN_le HNA.out M f o t rd lv
      generalize cRes M f o t rd lv = R at *
      generalize cO M f o t rd lv = o' at *
      generalize cN M f o n t rd lv = n' at *
      generalize hput f t R.2 = f' at *
      generalize R.1 = M' at *
      have hal := hs'.alone
      have HX5 := Lib.hid hX5; have HS' := Lib.hid hs'; have HOI' := Lib.hid hoi'; have HNA' := Lib.hid hna'
      have hle := hN_le f' 4
      have hh := held10_any C f' o' n' w5 hX5.cr
      clear hX5 hX1 hs' hoi' hna'
      have hd1 : decide ((1 : Int) < ((hwN f' 4 : Nat) : Int)) = false := decide_eq_false (by omega)
      obtain ⟨ca, hca⟩ : ∃ z, hwN f' 4 = z := ⟨_, rfl⟩
      obtain ⟨cb, hcb⟩ : ∃ z, hrN f' 4 = z := ⟨_, rfl⟩
      rw [hca] at hal hd1 hle hh
      rw [hcb] at hal hle hh
      have HH := Lib.hid hh
      have h01 : (ca = 0) ∨ (ca = 1 ∧ cb = 0) := by omega
      clear hca hcb hh hal
      have hb0 : (0 : Int) ≤ (cb : Int) := by omega
      rcases h01 with rfl | ⟨rfl, rfl⟩
      · go_wp2_with (go_at_call 39; refine HH.out.mono ?_; rintro e w6 ⟨rfl, hk6⟩)
        go_roundw
        case rel => exact ⟨i + 1, _, _, _, _, Q', A', by omega, by go_num, HX5.out.no hk6, HS'.out, HOI'.out, HNA'.out⟩
        case measure => simp [intOf]; omega
      · go_wp2_with (go_at_call 39; refine HH.out.mono ?_; rintro e w6 ⟨rfl, hk6⟩)
        go_roundw
        case rel => exact ⟨i + 1, _, _, _, _, Q', A', by omega, by go_num, HX5.out.no hk6, HS'.out, HOI'.out, HNA'.out⟩
        case measure => simp [intOf]; omega
    · obtain rfl : i = L.length := by omega
      go_wp2_with (go_at_call 37; refine (told10_any _).mono ?_; rintro e w8 ⟨rfl, hk8⟩)
      go_ret
      exact ⟨rfl, HX.out.kp.trans hk8⟩
end Go.Proofs.Ytchgfdfdkcijnaa
