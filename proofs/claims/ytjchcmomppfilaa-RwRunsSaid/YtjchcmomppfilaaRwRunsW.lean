/- Whoever comes, to read or to write, and goes, step by step as the document says (the walk). -/
import Derived.Test.YtjchcmomppfilaaRwTold
import Derived.Test.YtjchcmomppfilaaRwRef
import Derived.Test.YtjchcmomppfilaaRuns
import Derived.Test.YtjchcmomppfilaaHeldT
import Derived.Test.YtjchcmomppfilaaMemAll
namespace Go.Proofs.Ytjchcmomppfilaa
open Go.RowKit
theorem hput_at {f : Nat → HandS} {t : Nat} {h : HandS} : hput f t h t = h := if_pos rfl
/-- who goes on -/
theorem pick4 (x : Int) : ∃ t : Nat, t < 4 ∧ (IntKind.u64.wrap x).tmod 4 = (t : Int) := by
  obtain ⟨h1, h2⟩ := u64_tmod_bd x 4 (by omega)
  exact ⟨((IntKind.u64.wrap x).tmod 4).toNat, by omega, by omega⟩
set_option maxHeartbeats 40000000 in
set_option maxRecDepth 100000 in
theorem rwRuns_walk (w : World) (p0 : Value) (L : List Int) (f0 : InI w p0 L) (_f1 : ∀ k, k < L.length → (Lit.int .i64 (L.getD k 0)).wf = true) : Calls Try.prog 12 #[p0] w fun e w' => e = .returned (.bool true) ∧ Keeps NoS w w' := by
  obtain ⟨p, cap, rfl, hn, hc, _⟩ := f0
  have HW := Lib.hid hc
  clear hc _f1
  by_cases h300 : L.length ≤ 300
  case neg =>
    go_enter Try.func12, Try.ntmps12
    have h300' : (300 : Int) < (L.length : Int) := by omega
    go_wp2_with (go_at_call 39; refine (told10_any _).mono ?_; rintro e w1 ⟨rfl, hk1⟩)
    go_ret
    exact ⟨rfl, hk1⟩
  go_enter Try.func12, Try.ntmps12
  go_wp2_with (first
    | (go_at_call 16; refine (map8_any _).mono ?_; rintro e w1 ⟨rfl, hk1⟩))
  have hB := mapAt_new w1 2 2 4 0 2 24
  have hk1' := hk1.alloc (.cells #[.int .i64 2, .int .i64 2, .int .i64 4, .int .i64 0, .int .i64 2] 24)
  obtain ⟨B, hBe⟩ : ∃ B, w1.heap.size = B := ⟨_, rfl⟩
  rw [hBe] at hB
  rw [hBe]
  generalize w1.alloc (.cells #[.int .i64 2, .int .i64 2, .int .i64 4, .int .i64 0, .int .i64 2] 24) = W1 at *
  refine (ref_any ⟨2, 2, 4, 0, 2⟩ _).mono ?_
  rintro e w1' ⟨rfl, hk1r⟩
  unfold mapV; dsimp only
  have hB1 := hB.keep hk1r (fun f => f)
  obtain ⟨m0, m1, m2, m3, m4⟩ := hB1.keep ((Keeps.refl NoS w1').alloc (.cells #[.int .i64 2, .int .i64 2, .int .i64 4, .int .i64 0, .int .i64 2] 54)) (fun f => f)
  go_wp2_with fail
  have hF := mapAt_new w1' 2 2 4 0 2 54
  have hkF := (hk1'.trans hk1r).alloc (.cells #[.int .i64 2, .int .i64 2, .int .i64 4, .int .i64 0, .int .i64 2] 54)
  have hB2 := hB1.keep ((Keeps.refl NoS w1').alloc (.cells #[.int .i64 2, .int .i64 2, .int .i64 4, .int .i64 0, .int .i64 2] 54)) (fun f => f)
  obtain ⟨F, hFe⟩ : ∃ F, w1'.heap.size = F := ⟨_, rfl⟩
  rw [hFe] at hF
  (try rw [hFe])
  clear m0 m1 m2 m3 m4 hB hB1
  generalize w1'.alloc (.cells #[.int .i64 2, .int .i64 2, .int .i64 4, .int .i64 0, .int .i64 2] 54) = W at *
  refine (both_any 2 2 4 0 2 48 m9_size (by decide) (by decide) W).mono ?_
  rintro e w2 ⟨a, c, v, u, rfl, hT⟩
  have HBm := Lib.hid (fun w' (h : Keeps NoS W w') => mapCs (hB2.keep h (fun f => f)))
  have HFm := Lib.hid (fun w' (h : Keeps NoS W w') => mapCs (hF.keep h (fun f => f)))
  obtain ⟨G, hG⟩ : ∃ G, w2.heap.size = G := ⟨_, rfl⟩
  obtain ⟨w3, hw3, hr, hA, hGl⟩ := rnS_new hG hT
  have HR := Lib.hid hr; have HA := Lib.hid hA; have HW3 := Lib.hid hw3
  have HWk := Lib.hid hkF
  have hWB : W.heap.size ≤ G := hA.w
  clear hBe hFe hk1 hk1' hk1r hkF hr hA hT hB2 hF hw3
  go_wp2_with fail
  rw [HW3.out]
  (try rw [hG])
  clear hG HW3 hGl
  go_loopw [10] (fun i wq => ∃ (n : Nat) (M : MemS) (f : Nat → HandS) (o : Nat → Bool), n ≤ L.length ∧ i = .int .i64 n ∧ RnS W wq a c v u M G f o ∧ M.L.length = 48) (fun i _ => L.length - (intOf i).toNat)
  case atStart => exact ⟨0, _, _, _, by omega, rfl, HR.out, M0_len 48⟩
  case round =>
    obtain ⟨n, M, f, o, hnl, rfl, hr, hi⟩ := hrel
    have HX := Lib.hid hr; have HM := Lib.hid hi
    clear hr hi HR
    by_cases hlt : n < L.length
    · obtain ⟨b, off, rfl, hcs⟩ := HW.out (fun e => by rw [e] at hlt; simp at hlt)
      have hcc := hcs n hlt
      have HCN := Lib.hid (fun w' (h : Keeps NoS W w') => (HWk.out.trans h).cell hcc (fun f => f))
      have cn := HCN.out _ HX.out.r.t.s.kp
      clear hcs hcc
      generalize L.getD n 0 = z at *
      obtain ⟨t, ht, hz⟩ := pick4 z
      have ht1 : (0 : Int) ≤ (t : Int) := by omega
      have ht2 : (t : Int) < 4 := by omega
      obtain ⟨h0, hft⟩ : ∃ h, f t = h := ⟨_, rfl⟩
      obtain ⟨th, lk, s, rd, x⟩ := h0
      have HFT := Lib.hid hft
      clear hft
      obtain ⟨y0, y1, y2, y3, y4⟩ := HX.out.r.y.at ht HFT.out
      have o1 := HX.out.b.cell ht
      have o2 := HX.out.b.free t
      have hol := HX.out.b.lt
      obtain ⟨q4, hq4⟩ : ∃ q, ((IntKind.u64.wrap ((IntKind.u64.wrap z).tdiv 4)).tmod 2 == 0) = q := ⟨_, rfl⟩
      obtain ⟨q, hq⟩ : ∃ q, ((IntKind.u64.wrap ((IntKind.u64.wrap z).tdiv 8)).tmod 2 == 0) = q := ⟨_, rfl⟩
      obtain ⟨ob, hob⟩ : ∃ q, o t = q := ⟨_, rfl⟩
      rw [hob] at o1
      have HOB := Lib.hid hob
      clear hob
      have hsp : (s = 9 ∧ q = true) ∨ (s = 9 ∧ q = false) ∨ s = 0 ∨ (¬ s = 9 ∧ ¬ s = 0 ∧ ob = true) ∨ (¬ s = 9 ∧ ¬ s = 0 ∧ ob = false) := by
        by_cases e : s = 9
        · cases q
          · exact .inr (.inl ⟨e, rfl⟩)
          · exact .inl ⟨e, rfl⟩
        · by_cases e0 : s = 0
          · exact .inr (.inr (.inl e0))
          · cases ob
            · exact .inr (.inr (.inr (.inr ⟨e, e0, rfl⟩)))
            · exact .inr (.inr (.inr (.inl ⟨e, e0, rfl⟩)))
      rcases hsp with ⟨rfl, rfl⟩ | ⟨rfl, rfl⟩ | rfl | ⟨hne, hn0, rfl⟩ | ⟨hne, hn0, rfl⟩
      · have hoo := HX.out.out HA.out ht true
        have hk2 := hoo
        go_upto_region 20 with fail
        generalize wr.setCell ⟨G + 1 + 1, t, none⟩ (.bool true) = wp at *
        have HX2 := Lib.hid hoo
        clear cn hz hq hq4 HCN y0 y1 y2 y3 y4 o1 o2 hol HX hoo hk2
        have o3 := HX2.out.b.cell ht
        simp only [bput, if_true] at o3
        obtain ⟨M', h', hd⟩ : ∃ M' h', wDropI M ⟨th, lk, 9, rd, x⟩ = (M', h') := ⟨_, _, rfl⟩
        obtain ⟨t3, l3, s', r3, x'⟩ := h'
        have hln : M'.L.length = 48 := by have h := wDropI_len M ⟨th, lk, 9, rd, x⟩; rw [hd] at h; exact h.trans HM.out
        have HD := Lib.hid hd; have HI' := Lib.hid hln
        clear hd hln
        obtain ⟨m0, m1, m2, m3, m4⟩ := HBm.out _ HX2.out.r.t.s.kp
        obtain ⟨n0, n1, n2, n3, n4⟩ := HFm.out _ HX2.out.r.t.s.kp
        obtain ⟨u0, u1, u2, u3, u4⟩ := HX2.out.r.x.at ht HFT.out
        obtain ⟨v0, v1, v2, v3, v4⟩ := HX2.out.r.y.at ht HFT.out
        have hxl := HX2.out.r.x.lt
        have hyl := HX2.out.r.y.lt
        go_upto_region 21 with fail
        have hXd := HX2.out.no ((Keeps.refl NoS _).drew)
        refine wp_region_kept_drew 15 (fun w' => (w'.cell? ⟨G, t * 5, none⟩ = some (.int .i64 th) ∧ w'.cell? ⟨G, t * 5 + 1, none⟩ = some (.int .i64 lk) ∧ w'.cell? ⟨G, t * 5 + 2, none⟩ = some (.int .i64 9) ∧ w'.cell? ⟨G, t * 5 + 3, none⟩ = some (.bool rd) ∧ w'.cell? ⟨G, t * 5 + 4, none⟩ = some (.int .i64 x)) ∧ (w'.cell? ⟨(G + 1), t * 5, none⟩ = some (.int .i64 th) ∧ w'.cell? ⟨(G + 1), t * 5 + 1, none⟩ = some (.int .i64 lk) ∧ w'.cell? ⟨(G + 1), t * 5 + 2, none⟩ = some (.int .i64 9) ∧ w'.cell? ⟨(G + 1), t * 5 + 3, none⟩ = some (.bool rd) ∧ w'.cell? ⟨(G + 1), t * 5 + 4, none⟩ = some (.int .i64 x)) ∧ (w'.cell? ⟨B, 0, none⟩ = some (.int .i64 2) ∧ w'.cell? ⟨B, 1, none⟩ = some (.int .i64 2) ∧ w'.cell? ⟨B, 2, none⟩ = some (.int .i64 4) ∧ w'.cell? ⟨B, 3, none⟩ = some (.int .i64 0) ∧ w'.cell? ⟨B, 4, none⟩ = some (.int .i64 2)) ∧ (w'.cell? ⟨F, 0, none⟩ = some (.int .i64 2) ∧ w'.cell? ⟨F, 1, none⟩ = some (.int .i64 2) ∧ w'.cell? ⟨F, 2, none⟩ = some (.int .i64 4) ∧ w'.cell? ⟨F, 3, none⟩ = some (.int .i64 0) ∧ w'.cell? ⟨F, 4, none⟩ = some (.int .i64 2))) 17 (fun w' => (w'.cell? ⟨(G + 1), t * 5, none⟩ = some (.int .i64 th) ∧ w'.cell? ⟨(G + 1), t * 5 + 1, none⟩ = some (.int .i64 lk) ∧ w'.cell? ⟨(G + 1), t * 5 + 2, none⟩ = some (.int .i64 9) ∧ w'.cell? ⟨(G + 1), t * 5 + 3, none⟩ = some (.bool rd) ∧ w'.cell? ⟨(G + 1), t * 5 + 4, none⟩ = some (.int .i64 x)) ∧ (w'.cell? ⟨B, 0, none⟩ = some (.int .i64 2) ∧ w'.cell? ⟨B, 1, none⟩ = some (.int .i64 2) ∧ w'.cell? ⟨B, 2, none⟩ = some (.int .i64 4) ∧ w'.cell? ⟨B, 3, none⟩ = some (.int .i64 0) ∧ w'.cell? ⟨B, 4, none⟩ = some (.int .i64 2)) ∧ (w'.cell? ⟨F, 0, none⟩ = some (.int .i64 2) ∧ w'.cell? ⟨F, 1, none⟩ = some (.int .i64 2) ∧ w'.cell? ⟨F, 2, none⟩ = some (.int .i64 4) ∧ w'.cell? ⟨F, 3, none⟩ = some (.int .i64 0) ∧ w'.cell? ⟨F, 4, none⟩ = some (.int .i64 2))) (by kernel_rfl) (⟨⟨u0, u1, u2, u3, u4⟩, ⟨v0, v1, v2, v3, v4⟩, ⟨m0, m1, m2, m3, m4⟩, ⟨n0, n1, n2, n3, n4⟩⟩) (⟨⟨v0, v1, v2, v3, v4⟩, ⟨m0, m1, m2, m3, m4⟩, ⟨n0, n1, n2, n3, n4⟩⟩) (fun hK => ?_)
        refine wpAnyK_take1 (i := 0) (v := ?_) (by simp only [List.getElem?_toArray, List.getElem?_cons_succ, List.getElem?_cons_zero]; rfl) (by kernel_rfl) (by kernel_rfl) (by kernel_rfl) (by kernel_rfl) (by kernel_rfl) (by kernel_rfl) (by exact fun _ _ _ h => h) (Or.inl ⟨by rfl, ?_⟩) (hK _) ?_
        rotate_left
        · intro w hSw; (try dsimp only at hSw); go_simp; (try with_reducible rfl)
        try simp only [Act.put, List.setIfInBounds_toArray, List.set_cons_zero, List.set_cons_succ]
        refine wpAnyK_take2 (i := 1) (v := ?_) (by simp only [List.getElem?_toArray, List.getElem?_cons_succ, List.getElem?_cons_zero]; rfl) (by kernel_rfl) (by kernel_rfl) (by kernel_rfl) (by kernel_rfl) (by kernel_rfl) (by kernel_rfl) (by exact fun _ _ _ h => h) (Or.inl ⟨by rfl, ?_⟩) (hK _) ?_
        rotate_left
        · intro w hSw; (try dsimp only at hSw); go_simp; (try with_reducible rfl)
        try simp only [Act.put, List.setIfInBounds_toArray, List.set_cons_zero, List.set_cons_succ]
        refine wpAnyK_take1 (i := 2) (v := ?_) (by simp only [List.getElem?_toArray, List.getElem?_cons_succ, List.getElem?_cons_zero]; rfl) (by kernel_rfl) (by kernel_rfl) (by kernel_rfl) (by kernel_rfl) (by kernel_rfl) (by kernel_rfl) (by exact fun _ _ _ h => h) (Or.inl ⟨by rfl, ?_⟩) (hK _) ?_
        rotate_left
        · intro w hSw; (try dsimp only at hSw); go_simp; (try with_reducible rfl)
        try simp only [Act.put, List.setIfInBounds_toArray, List.set_cons_zero, List.set_cons_succ]
        refine wpAnyK_take1 (i := 3) (v := ?_) (by simp only [List.getElem?_toArray, List.getElem?_cons_succ, List.getElem?_cons_zero]; rfl) (by kernel_rfl) (by kernel_rfl) (by kernel_rfl) (by kernel_rfl) (by kernel_rfl) (by kernel_rfl) (by exact fun _ _ _ h => h) (Or.inl ⟨by rfl, ?_⟩) (hK _) ?_
        rotate_left
        · intro w hSw; (try dsimp only at hSw); go_simp; (try with_reducible rfl)
        try simp only [Act.put, List.setIfInBounds_toArray, List.set_cons_zero, List.set_cons_succ]
        refine wpAnyK_take1 (i := 4) (v := ?_) (by simp only [List.getElem?_toArray, List.getElem?_cons_succ, List.getElem?_cons_zero]; rfl) (by kernel_rfl) (by kernel_rfl) (by kernel_rfl) (by kernel_rfl) (by kernel_rfl) (by kernel_rfl) (by exact fun _ _ _ h => h) (Or.inl ⟨by rfl, ?_⟩) (hK _) ?_
        rotate_left
        · intro w hSw; (try dsimp only at hSw); go_simp; (try with_reducible rfl)
        try simp only [Act.put, List.setIfInBounds_toArray, List.set_cons_zero, List.set_cons_succ]
        refine wpAnyK_take1 (i := 5) (v := ?_) (by simp only [List.getElem?_toArray, List.getElem?_cons_succ, List.getElem?_cons_zero]; rfl) (by kernel_rfl) (by kernel_rfl) (by kernel_rfl) (by kernel_rfl) (by kernel_rfl) (by kernel_rfl) (by exact fun _ _ _ h => h) (Or.inl ⟨by rfl, ?_⟩) (hK _) ?_
        rotate_left
        · intro w hSw; (try dsimp only at hSw); go_simp; (try with_reducible rfl)
        try simp only [Act.put, List.setIfInBounds_toArray, List.set_cons_zero, List.set_cons_succ]
        refine wpAnyK_take1 (i := 6) (v := ?_) (by simp only [List.getElem?_toArray, List.getElem?_cons_succ, List.getElem?_cons_zero]; rfl) (by kernel_rfl) (by kernel_rfl) (by kernel_rfl) (by kernel_rfl) (by kernel_rfl) (by kernel_rfl) (by exact fun _ _ _ h => h) (Or.inl ⟨by rfl, ?_⟩) (hK _) ?_
        rotate_left
        · intro w hSw; (try dsimp only at hSw); go_simp; (try with_reducible rfl)
        try simp only [Act.put, List.setIfInBounds_toArray, List.set_cons_zero, List.set_cons_succ]
        refine wpAnyK_take2 (i := 8) (v := ?_) (by simp only [List.getElem?_toArray, List.getElem?_cons_succ, List.getElem?_cons_zero]; rfl) (by kernel_rfl) (by kernel_rfl) (by kernel_rfl) (by kernel_rfl) (by kernel_rfl) (by kernel_rfl) (by exact fun _ _ _ h => h) (Or.inl ⟨by rfl, ?_⟩) (hK _) ?_
        rotate_left
        · intro w hSw; (try dsimp only at hSw); go_simp; (try with_reducible rfl)
        try simp only [Act.put, List.setIfInBounds_toArray, List.set_cons_zero, List.set_cons_succ]
        refine wpAnyK_take2 (i := 9) (v := ?_) (by simp only [List.getElem?_toArray, List.getElem?_cons_succ, List.getElem?_cons_zero]; rfl) (by kernel_rfl) (by kernel_rfl) (by kernel_rfl) (by kernel_rfl) (by kernel_rfl) (by kernel_rfl) (by exact fun _ _ _ h => h) (Or.inl ⟨by rfl, ?_⟩) (hK _) ?_
        rotate_left
        · intro w hSw; (try dsimp only at hSw); go_simp; (try with_reducible rfl)
        try simp only [Act.put, List.setIfInBounds_toArray, List.set_cons_zero, List.set_cons_succ]
        refine wpAnyK_take2 (i := 10) (v := ?_) (by simp only [List.getElem?_toArray, List.getElem?_cons_succ, List.getElem?_cons_zero]; rfl) (by kernel_rfl) (by kernel_rfl) (by kernel_rfl) (by kernel_rfl) (by kernel_rfl) (by kernel_rfl) (by exact fun _ _ _ h => h) (Or.inl ⟨by rfl, ?_⟩) (hK _) ?_
        rotate_left
        · intro w hSw; (try dsimp only at hSw); go_simp; (try with_reducible rfl)
        try simp only [Act.put, List.setIfInBounds_toArray, List.set_cons_zero, List.set_cons_succ]
        refine wpAnyK_take2 (i := 11) (v := ?_) (by simp only [List.getElem?_toArray, List.getElem?_cons_succ, List.getElem?_cons_zero]; rfl) (by kernel_rfl) (by kernel_rfl) (by kernel_rfl) (by kernel_rfl) (by kernel_rfl) (by kernel_rfl) (by exact fun _ _ _ h => h) (Or.inl ⟨by rfl, ?_⟩) (hK _) ?_
        rotate_left
        · intro w hSw; (try dsimp only at hSw); go_simp; (try with_reducible rfl)
        try simp only [Act.put, List.setIfInBounds_toArray, List.set_cons_zero, List.set_cons_succ]
        refine wpAnyK_take2 (i := 12) (v := ?_) (by simp only [List.getElem?_toArray, List.getElem?_cons_succ, List.getElem?_cons_zero]; rfl) (by kernel_rfl) (by kernel_rfl) (by kernel_rfl) (by kernel_rfl) (by kernel_rfl) (by kernel_rfl) (by exact fun _ _ _ h => h) (Or.inl ⟨by rfl, ?_⟩) (hK _) ?_
        rotate_left
        · intro w hSw; (try dsimp only at hSw); go_simp; (try with_reducible rfl)
        try simp only [Act.put, List.setIfInBounds_toArray, List.set_cons_zero, List.set_cons_succ]
        refine wpAnyK_one (i := 7) (by kernel_rfl) (by simp only [List.getElem?_toArray, List.getElem?_cons_succ, List.getElem?_cons_zero]; rfl) (fun kC hkC => ?_)
        go_simp
        refine (rwdrop8_any th lk 9 rd x a v M _ hXd.r.t.s.m HM.out).mono ?_; rw [HD.out]; unfold handV; dsimp only; rintro e w5 ⟨rfl, hm, hk⟩; have hT5 := hXd.r.t.turnS hm hk; have hx5 := hXd.r.x.keep hk (HA.out.na (Nat.le_refl _)); have hy5 := hXd.r.y.keep hk (HA.out.na (by omega)); have hb5 := hXd.b.keep hk (HA.out.na (by omega)); have m5 := HBm.out _ hT5.s.kp; have n5 := HFm.out _ hT5.s.kp; have hX5 := hx5.at ht HFT.out; have hY5 := hy5.at ht HFT.out; clear hm hk
        (try go_wp2_with fail)
        refine hkC.out _ _ (⟨hX5, hY5, m5, n5⟩) (⟨hY5, m5, n5⟩) (fun hK => ?_)
        clear hkC kC
        try simp only [Act.put, List.setIfInBounds_toArray, List.set_cons_zero, List.set_cons_succ]
        refine wpAnyK_take1 (i := 14) (v := ?_) (by simp only [List.getElem?_toArray, List.getElem?_cons_succ, List.getElem?_cons_zero]; rfl) (by kernel_rfl) (by kernel_rfl) (by kernel_rfl) (by kernel_rfl) (by kernel_rfl) (by kernel_rfl) (by exact fun _ _ _ h => h) (Or.inl ⟨by rfl, ?_⟩) (hK _) ?_
        rotate_left
        · intro w hSw; (try dsimp only at hSw); go_simp; (try with_reducible rfl)
        try simp only [Act.put, List.setIfInBounds_toArray, List.set_cons_zero, List.set_cons_succ]
        refine wpAnyK_one (i := 13) (by kernel_rfl) (by simp only [List.getElem?_toArray, List.getElem?_cons_succ, List.getElem?_cons_zero]; rfl) (fun kC hkC => ?_)
        go_simp
        refine (rrwdrop8_any th lk 9 rd x c u M _ hT5.r.m HM.out).mono ?_; rw [HD.out]; unfold handV; dsimp only; rintro e w7 ⟨rfl, hm, hk⟩; have hT7 := hT5.turnR hm hk; have hx7 := hx5.keep hk (HA.out.nc (Nat.le_refl _)); have hy7 := hy5.keep hk (HA.out.nc (by omega)); have hb7 := hb5.keep hk (HA.out.nc (by omega)); have m7 := HBm.out _ hT7.s.kp; have n7 := HFm.out _ hT7.s.kp; have hX7 := hx7.at ht HFT.out; have hY7 := hy7.at ht HFT.out; obtain ⟨F0, F1, F2, F3, F4⟩ := hx7.frees t; obtain ⟨G0, G1, G2, G3, G4⟩ := hy7.frees t; have hl7 := hy7.lt; have hput7 := RnS.put ⟨⟨hT7, hx7, hy7⟩, hb7⟩ HA.out t ht ⟨t3, l3, s', r3, x'⟩; have HP := Lib.hid hput7; have hyS := (hy7.outH (G' := G) (by omega) t ⟨t3, l3, s', r3, x'⟩).at ht HFT.out; have mS := HBm.out _ (hT7.s.kp.setH (g := G) hWB t ⟨t3, l3, s', r3, x'⟩); have nS := HFm.out _ (hT7.s.kp.setH (g := G) hWB t ⟨t3, l3, s', r3, x'⟩); unfold setH at hyS mS nS; dsimp only at hyS mS nS; clear hm hk hput7
        (try go_wp2_with fail)
        refine hkC.out _ _ (⟨hX7, hY7, m7, n7⟩) (⟨hY7, m7, n7⟩) (fun hK => ?_)
        clear hkC kC
        try simp only [Act.put, List.setIfInBounds_toArray, List.set_cons_zero, List.set_cons_succ]
        refine wpAnyK_mid (i := 15) (by kernel_rfl) (by simp only [List.getElem?_toArray, List.getElem?_cons_succ, List.getElem?_cons_zero]; rfl) (by kernel_rfl) (fun kC hkC => ?_)
        go_simp
        refine hkC.out _ _ (⟨hyS, mS, nS⟩) (fun hM => ?_)
        clear hkC kC
        try simp only [Act.put, List.setIfInBounds_toArray, List.set_cons_zero, List.set_cons_succ]
        refine wpAnyK_take2 (i := 16) (v := ?_) (by simp only [List.getElem?_toArray, List.getElem?_cons_succ, List.getElem?_cons_zero]; rfl) (by kernel_rfl) (by kernel_rfl) (by kernel_rfl) (by kernel_rfl) (by kernel_rfl) (by kernel_rfl) (by exact fun _ _ _ h => h) (Or.inl ⟨by rfl, ?_⟩) (ReqK.mid (by kernel_rfl) hM) ?_
        rotate_left
        · intro w hSw; (try dsimp only at hSw); go_simp; (try with_reducible rfl)
        try simp only [Act.put, List.setIfInBounds_toArray, List.set_cons_zero, List.set_cons_succ]
        refine wpAnyK_last (i := 17) (by kernel_rfl) (by simp only [List.getElem?_toArray, List.getElem?_cons_succ, List.getElem?_cons_zero]; rfl) (by kernel_rfl) (by kernel_rfl) (fun kC hkC => ?_)
        go_simp
        refine hkC.out _ _ ?_
        clear hkC kC
        try simp only [Act.put, List.setIfInBounds_toArray, List.set_cons_zero, List.set_cons_succ]
        refine wpAnyK_done (by kernel_rfl) ?_ _
        have hP := HP.out
        unfold setH at hP
        dsimp only at hP
        generalize (((((((((w7.setCell ⟨G, t * 5, none⟩ (.int .i64 t3)).setCell ⟨G, t * 5 + 1, none⟩ (.int .i64 l3)).setCell ⟨G, t * 5 + 2, none⟩ (.int .i64 s')).setCell ⟨G, t * 5 + 3, none⟩ (.bool r3)).setCell ⟨G, t * 5 + 4, none⟩ (.int .i64 x')).setCell ⟨(G + 1), t * 5, none⟩ (.int .i64 t3)).setCell ⟨(G + 1), t * 5 + 1, none⟩ (.int .i64 l3)).setCell ⟨(G + 1), t * 5 + 2, none⟩ (.int .i64 s')).setCell ⟨(G + 1), t * 5 + 3, none⟩ (.bool r3)).setCell ⟨(G + 1), t * 5 + 4, none⟩ (.int .i64 x') = wz at *
        have hft' := hput_at (f := f) (t := t) (h := ⟨t3, l3, s', r3, x'⟩)
        generalize hput f t ⟨t3, l3, s', r3, x'⟩ = f' at *
        have HX' := Lib.hid hP; have HFT' := Lib.hid hft'
        clear hP HP hft' hT5 hT7 hx5 hx7 hy5 hy7 hb5 hb7 m5 m7 n5 n7 hX5 hX7 hY5 hY7 F0 F1 F2 F3 F4 G0 G1 G2 G3 G4 hl7 hyS mS nS hXd hK u0 u1 u2 u3 u4 v0 v1 v2 v3 v4 m0 m1 m2 m3 m4 n0 n1 n2 n3 n4 HX2 hxl hyl
        cases r3
        · obtain ⟨u0, u1, u2, u3, u4⟩ := HX'.out.r.x.at ht HFT'.out
          obtain ⟨v0, v1, v2, v3, v4⟩ := HX'.out.r.y.at ht HFT'.out
          have hTd := HX'.out.r.t.keep ((Keeps.refl NoS _).drew)
          go_wp2_with fail
          refine wp_region_held_drew (S := (fun w' => (w'.cell? ⟨G, t * 5, none⟩ = some (.int .i64 t3) ∧ w'.cell? ⟨G, t * 5 + 1, none⟩ = some (.int .i64 l3) ∧ w'.cell? ⟨G, t * 5 + 2, none⟩ = some (.int .i64 s') ∧ w'.cell? ⟨G, t * 5 + 3, none⟩ = some (.bool false) ∧ w'.cell? ⟨G, t * 5 + 4, none⟩ = some (.int .i64 x')) ∧ (w'.cell? ⟨(G + 1), t * 5, none⟩ = some (.int .i64 t3) ∧ w'.cell? ⟨(G + 1), t * 5 + 1, none⟩ = some (.int .i64 l3) ∧ w'.cell? ⟨(G + 1), t * 5 + 2, none⟩ = some (.int .i64 s') ∧ w'.cell? ⟨(G + 1), t * 5 + 3, none⟩ = some (.bool false) ∧ w'.cell? ⟨(G + 1), t * 5 + 4, none⟩ = some (.int .i64 x')))) (by kernel_rfl) (⟨⟨u0, u1, u2, u3, u4⟩, ⟨v0, v1, v2, v3, v4⟩⟩) (fun hHeld => ?_)
          refine wpAnyH_take (i := 0) (v := ?_) (by simp only [List.getElem?_toArray, List.getElem?_cons_succ, List.getElem?_cons_zero]; rfl) (by kernel_rfl) (by kernel_rfl) (by kernel_rfl) (by exact fun _ _ _ h => h) (Or.inl ⟨by rfl, ?_⟩) hHeld ?_
          rotate_left
          · intro w hSw; (try dsimp only at hSw); go_simp; (try with_reducible rfl)
          try simp only [Act.put, List.setIfInBounds_toArray, List.set_cons_zero, List.set_cons_succ]
          refine wpAnyH_take (i := 1) (v := ?_) (by simp only [List.getElem?_toArray, List.getElem?_cons_succ, List.getElem?_cons_zero]; rfl) (by kernel_rfl) (by kernel_rfl) (by kernel_rfl) (by exact fun _ _ _ h => h) (Or.inl ⟨by rfl, ?_⟩) hHeld ?_
          rotate_left
          · intro w hSw; (try dsimp only at hSw); go_simp; (try with_reducible rfl)
          try simp only [Act.put, List.setIfInBounds_toArray, List.set_cons_zero, List.set_cons_succ]
          refine wpAnyH_take (i := 2) (v := ?_) (by simp only [List.getElem?_toArray, List.getElem?_cons_succ, List.getElem?_cons_zero]; rfl) (by kernel_rfl) (by kernel_rfl) (by kernel_rfl) (by exact fun _ _ _ h => h) (Or.inl ⟨by rfl, ?_⟩) hHeld ?_
          rotate_left
          · intro w hSw; (try dsimp only at hSw); go_simp; (try with_reducible rfl)
          try simp only [Act.put, List.setIfInBounds_toArray, List.set_cons_zero, List.set_cons_succ]
          refine wpAnyH_take (i := 3) (v := ?_) (by simp only [List.getElem?_toArray, List.getElem?_cons_succ, List.getElem?_cons_zero]; rfl) (by kernel_rfl) (by kernel_rfl) (by kernel_rfl) (by exact fun _ _ _ h => h) (Or.inl ⟨by rfl, ?_⟩) hHeld ?_
          rotate_left
          · intro w hSw; (try dsimp only at hSw); go_simp; (try with_reducible rfl)
          try simp only [Act.put, List.setIfInBounds_toArray, List.set_cons_zero, List.set_cons_succ]
          refine wpAnyH_take (i := 4) (v := ?_) (by simp only [List.getElem?_toArray, List.getElem?_cons_succ, List.getElem?_cons_zero]; rfl) (by kernel_rfl) (by kernel_rfl) (by kernel_rfl) (by exact fun _ _ _ h => h) (Or.inl ⟨by rfl, ?_⟩) hHeld ?_
          rotate_left
          · intro w hSw; (try dsimp only at hSw); go_simp; (try with_reducible rfl)
          try simp only [Act.put, List.setIfInBounds_toArray, List.set_cons_zero, List.set_cons_succ]
          refine wpAnyH_take (i := 5) (v := ?_) (by simp only [List.getElem?_toArray, List.getElem?_cons_succ, List.getElem?_cons_zero]; rfl) (by kernel_rfl) (by kernel_rfl) (by kernel_rfl) (by exact fun _ _ _ h => h) (Or.inl ⟨by rfl, ?_⟩) hHeld ?_
          rotate_left
          · intro w hSw; (try dsimp only at hSw); go_simp; (try with_reducible rfl)
          try simp only [Act.put, List.setIfInBounds_toArray, List.set_cons_zero, List.set_cons_succ]
          refine wpAnyH_take (i := 6) (v := ?_) (by simp only [List.getElem?_toArray, List.getElem?_cons_succ, List.getElem?_cons_zero]; rfl) (by kernel_rfl) (by kernel_rfl) (by kernel_rfl) (by exact fun _ _ _ h => h) (Or.inl ⟨by rfl, ?_⟩) hHeld ?_
          rotate_left
          · intro w hSw; (try dsimp only at hSw); go_simp; (try with_reducible rfl)
          try simp only [Act.put, List.setIfInBounds_toArray, List.set_cons_zero, List.set_cons_succ]
          refine wpAnyH_take (i := 7) (v := ?_) (by simp only [List.getElem?_toArray, List.getElem?_cons_succ, List.getElem?_cons_zero]; rfl) (by kernel_rfl) (by kernel_rfl) (by kernel_rfl) (by exact fun _ _ _ h => h) (Or.inl ⟨by rfl, ?_⟩) hHeld ?_
          rotate_left
          · intro w hSw; (try dsimp only at hSw); go_simp; (try with_reducible rfl)
          try simp only [Act.put, List.setIfInBounds_toArray, List.set_cons_zero, List.set_cons_succ]
          refine wpAnyH_take (i := 8) (v := ?_) (by simp only [List.getElem?_toArray, List.getElem?_cons_succ, List.getElem?_cons_zero]; rfl) (by kernel_rfl) (by kernel_rfl) (by kernel_rfl) (by exact fun _ _ _ h => h) (Or.inl ⟨by rfl, ?_⟩) hHeld ?_
          rotate_left
          · intro w hSw; (try dsimp only at hSw); go_simp; (try with_reducible rfl)
          try simp only [Act.put, List.setIfInBounds_toArray, List.set_cons_zero, List.set_cons_succ]
          refine wpAnyH_take (i := 9) (v := ?_) (by simp only [List.getElem?_toArray, List.getElem?_cons_succ, List.getElem?_cons_zero]; rfl) (by kernel_rfl) (by kernel_rfl) (by kernel_rfl) (by exact fun _ _ _ h => h) (Or.inl ⟨by rfl, ?_⟩) hHeld ?_
          rotate_left
          · intro w hSw; (try dsimp only at hSw); go_simp; (try with_reducible rfl)
          try simp only [Act.put, List.setIfInBounds_toArray, List.set_cons_zero, List.set_cons_succ]
          refine wpAnyH_ready (rs := [10]) (by kernel_rfl) (by simp) ?_
          refine AllReadyH.cons (by simp only [List.getElem?_toArray, List.getElem?_cons_succ, List.getElem?_cons_zero]; rfl) (fun kC hkC => ?_) AllReadyH.nil
          go_simp
          refine (like_keep W _ a c v u M' hTd).mono ?_; rintro e w8 ⟨rfl, hT8, hk8⟩; have hX8 := (HX'.out.no ((Keeps.refl NoS _).drew)).no hk8
          (try go_wp2_with fail)
          refine hkC.out _ _ (And.intro (hX8.r.x.at ht HFT'.out) (hX8.r.y.at ht HFT'.out)) (fun hHeld => ?_)
          clear hkC kC
          try simp only [Act.put, List.setIfInBounds_toArray, List.set_cons_zero, List.set_cons_succ]
          refine wpAnyH_take (i := 11) (v := ?_) (by simp only [List.getElem?_toArray, List.getElem?_cons_succ, List.getElem?_cons_zero]; rfl) (by kernel_rfl) (by kernel_rfl) (by kernel_rfl) (by exact fun _ _ _ h => h) (Or.inl ⟨by rfl, ?_⟩) hHeld ?_
          rotate_left
          · intro w hSw; (try dsimp only at hSw); go_simp; (try with_reducible rfl)
          try simp only [Act.put, List.setIfInBounds_toArray, List.set_cons_zero, List.set_cons_succ]
          refine wpAnyH_take (i := 12) (v := ?_) (by simp only [List.getElem?_toArray, List.getElem?_cons_succ, List.getElem?_cons_zero]; rfl) (by kernel_rfl) (by kernel_rfl) (by kernel_rfl) (by exact fun _ _ _ h => h) (Or.inl ⟨by rfl, ?_⟩) hHeld ?_
          rotate_left
          · intro w hSw; (try dsimp only at hSw); go_simp; (try with_reducible rfl)
          try simp only [Act.put, List.setIfInBounds_toArray, List.set_cons_zero, List.set_cons_succ]
          refine wpAnyH_done (by kernel_rfl) ?_ _
          go_wp2_with fail
          go_roundw
          case rel => exact ⟨n + 1, M', f', _, by omega, by go_num, hX8, HI'.out⟩
          case measure => simp [intOf]; omega
        · obtain ⟨u0, u1, u2, u3, u4⟩ := HX'.out.r.x.at ht HFT'.out
          obtain ⟨v0, v1, v2, v3, v4⟩ := HX'.out.r.y.at ht HFT'.out
          have hTd := HX'.out.r.t.keep ((Keeps.refl NoS _).drew)
          go_wp2_with fail
          refine wp_region_held_drew (S := (fun w' => (w'.cell? ⟨G, t * 5, none⟩ = some (.int .i64 t3) ∧ w'.cell? ⟨G, t * 5 + 1, none⟩ = some (.int .i64 l3) ∧ w'.cell? ⟨G, t * 5 + 2, none⟩ = some (.int .i64 s') ∧ w'.cell? ⟨G, t * 5 + 3, none⟩ = some (.bool true) ∧ w'.cell? ⟨G, t * 5 + 4, none⟩ = some (.int .i64 x')) ∧ (w'.cell? ⟨(G + 1), t * 5, none⟩ = some (.int .i64 t3) ∧ w'.cell? ⟨(G + 1), t * 5 + 1, none⟩ = some (.int .i64 l3) ∧ w'.cell? ⟨(G + 1), t * 5 + 2, none⟩ = some (.int .i64 s') ∧ w'.cell? ⟨(G + 1), t * 5 + 3, none⟩ = some (.bool true) ∧ w'.cell? ⟨(G + 1), t * 5 + 4, none⟩ = some (.int .i64 x')))) (by kernel_rfl) (⟨⟨u0, u1, u2, u3, u4⟩, ⟨v0, v1, v2, v3, v4⟩⟩) (fun hHeld => ?_)
          refine wpAnyH_take (i := 0) (v := ?_) (by simp only [List.getElem?_toArray, List.getElem?_cons_succ, List.getElem?_cons_zero]; rfl) (by kernel_rfl) (by kernel_rfl) (by kernel_rfl) (by exact fun _ _ _ h => h) (Or.inl ⟨by rfl, ?_⟩) hHeld ?_
          rotate_left
          · intro w hSw; (try dsimp only at hSw); go_simp; (try with_reducible rfl)
          try simp only [Act.put, List.setIfInBounds_toArray, List.set_cons_zero, List.set_cons_succ]
          refine wpAnyH_take (i := 1) (v := ?_) (by simp only [List.getElem?_toArray, List.getElem?_cons_succ, List.getElem?_cons_zero]; rfl) (by kernel_rfl) (by kernel_rfl) (by kernel_rfl) (by exact fun _ _ _ h => h) (Or.inl ⟨by rfl, ?_⟩) hHeld ?_
          rotate_left
          · intro w hSw; (try dsimp only at hSw); go_simp; (try with_reducible rfl)
          try simp only [Act.put, List.setIfInBounds_toArray, List.set_cons_zero, List.set_cons_succ]
          refine wpAnyH_take (i := 2) (v := ?_) (by simp only [List.getElem?_toArray, List.getElem?_cons_succ, List.getElem?_cons_zero]; rfl) (by kernel_rfl) (by kernel_rfl) (by kernel_rfl) (by exact fun _ _ _ h => h) (Or.inl ⟨by rfl, ?_⟩) hHeld ?_
          rotate_left
          · intro w hSw; (try dsimp only at hSw); go_simp; (try with_reducible rfl)
          try simp only [Act.put, List.setIfInBounds_toArray, List.set_cons_zero, List.set_cons_succ]
          refine wpAnyH_take (i := 3) (v := ?_) (by simp only [List.getElem?_toArray, List.getElem?_cons_succ, List.getElem?_cons_zero]; rfl) (by kernel_rfl) (by kernel_rfl) (by kernel_rfl) (by exact fun _ _ _ h => h) (Or.inl ⟨by rfl, ?_⟩) hHeld ?_
          rotate_left
          · intro w hSw; (try dsimp only at hSw); go_simp; (try with_reducible rfl)
          try simp only [Act.put, List.setIfInBounds_toArray, List.set_cons_zero, List.set_cons_succ]
          refine wpAnyH_take (i := 4) (v := ?_) (by simp only [List.getElem?_toArray, List.getElem?_cons_succ, List.getElem?_cons_zero]; rfl) (by kernel_rfl) (by kernel_rfl) (by kernel_rfl) (by exact fun _ _ _ h => h) (Or.inl ⟨by rfl, ?_⟩) hHeld ?_
          rotate_left
          · intro w hSw; (try dsimp only at hSw); go_simp; (try with_reducible rfl)
          try simp only [Act.put, List.setIfInBounds_toArray, List.set_cons_zero, List.set_cons_succ]
          refine wpAnyH_take (i := 5) (v := ?_) (by simp only [List.getElem?_toArray, List.getElem?_cons_succ, List.getElem?_cons_zero]; rfl) (by kernel_rfl) (by kernel_rfl) (by kernel_rfl) (by exact fun _ _ _ h => h) (Or.inl ⟨by rfl, ?_⟩) hHeld ?_
          rotate_left
          · intro w hSw; (try dsimp only at hSw); go_simp; (try with_reducible rfl)
          try simp only [Act.put, List.setIfInBounds_toArray, List.set_cons_zero, List.set_cons_succ]
          refine wpAnyH_take (i := 6) (v := ?_) (by simp only [List.getElem?_toArray, List.getElem?_cons_succ, List.getElem?_cons_zero]; rfl) (by kernel_rfl) (by kernel_rfl) (by kernel_rfl) (by exact fun _ _ _ h => h) (Or.inl ⟨by rfl, ?_⟩) hHeld ?_
          rotate_left
          · intro w hSw; (try dsimp only at hSw); go_simp; (try with_reducible rfl)
          try simp only [Act.put, List.setIfInBounds_toArray, List.set_cons_zero, List.set_cons_succ]
          refine wpAnyH_take (i := 7) (v := ?_) (by simp only [List.getElem?_toArray, List.getElem?_cons_succ, List.getElem?_cons_zero]; rfl) (by kernel_rfl) (by kernel_rfl) (by kernel_rfl) (by exact fun _ _ _ h => h) (Or.inl ⟨by rfl, ?_⟩) hHeld ?_
          rotate_left
          · intro w hSw; (try dsimp only at hSw); go_simp; (try with_reducible rfl)
          try simp only [Act.put, List.setIfInBounds_toArray, List.set_cons_zero, List.set_cons_succ]
          refine wpAnyH_take (i := 8) (v := ?_) (by simp only [List.getElem?_toArray, List.getElem?_cons_succ, List.getElem?_cons_zero]; rfl) (by kernel_rfl) (by kernel_rfl) (by kernel_rfl) (by exact fun _ _ _ h => h) (Or.inl ⟨by rfl, ?_⟩) hHeld ?_
          rotate_left
          · intro w hSw; (try dsimp only at hSw); go_simp; (try with_reducible rfl)
          try simp only [Act.put, List.setIfInBounds_toArray, List.set_cons_zero, List.set_cons_succ]
          refine wpAnyH_take (i := 9) (v := ?_) (by simp only [List.getElem?_toArray, List.getElem?_cons_succ, List.getElem?_cons_zero]; rfl) (by kernel_rfl) (by kernel_rfl) (by kernel_rfl) (by exact fun _ _ _ h => h) (Or.inl ⟨by rfl, ?_⟩) hHeld ?_
          rotate_left
          · intro w hSw; (try dsimp only at hSw); go_simp; (try with_reducible rfl)
          try simp only [Act.put, List.setIfInBounds_toArray, List.set_cons_zero, List.set_cons_succ]
          refine wpAnyH_ready (rs := [10]) (by kernel_rfl) (by simp) ?_
          refine AllReadyH.cons (by simp only [List.getElem?_toArray, List.getElem?_cons_succ, List.getElem?_cons_zero]; rfl) (fun kC hkC => ?_) AllReadyH.nil
          go_simp
          refine (like_keep W _ a c v u M' hTd).mono ?_; rintro e w8 ⟨rfl, hT8, hk8⟩; have hX8 := (HX'.out.no ((Keeps.refl NoS _).drew)).no hk8
          (try go_wp2_with fail)
          refine hkC.out _ _ (And.intro (hX8.r.x.at ht HFT'.out) (hX8.r.y.at ht HFT'.out)) (fun hHeld => ?_)
          clear hkC kC
          try simp only [Act.put, List.setIfInBounds_toArray, List.set_cons_zero, List.set_cons_succ]
          refine wpAnyH_take (i := 11) (v := ?_) (by simp only [List.getElem?_toArray, List.getElem?_cons_succ, List.getElem?_cons_zero]; rfl) (by kernel_rfl) (by kernel_rfl) (by kernel_rfl) (by exact fun _ _ _ h => h) (Or.inl ⟨by rfl, ?_⟩) hHeld ?_
          rotate_left
          · intro w hSw; (try dsimp only at hSw); go_simp; (try with_reducible rfl)
          try simp only [Act.put, List.setIfInBounds_toArray, List.set_cons_zero, List.set_cons_succ]
          refine wpAnyH_take (i := 12) (v := ?_) (by simp only [List.getElem?_toArray, List.getElem?_cons_succ, List.getElem?_cons_zero]; rfl) (by kernel_rfl) (by kernel_rfl) (by kernel_rfl) (by exact fun _ _ _ h => h) (Or.inl ⟨by rfl, ?_⟩) hHeld ?_
          rotate_left
          · intro w hSw; (try dsimp only at hSw); go_simp; (try with_reducible rfl)
          try simp only [Act.put, List.setIfInBounds_toArray, List.set_cons_zero, List.set_cons_succ]
          refine wpAnyH_done (by kernel_rfl) ?_ _
          go_wp2_with fail
          go_roundw
          case rel => exact ⟨n + 1, M', f', _, by omega, by go_num, hX8, HI'.out⟩
          case measure => simp [intOf]; omega
      · have hoo := HX.out.out HA.out ht false
        have hk2 := hoo
        go_upto_region 20 with fail
        generalize wr.setCell ⟨G + 1 + 1, t, none⟩ (.bool false) = wp at *
        have HX2 := Lib.hid hoo
        clear cn hz hq hq4 HCN y0 y1 y2 y3 y4 o1 o2 hol HX hoo hk2
        have o3 := HX2.out.b.cell ht
        simp only [bput, if_true] at o3
        obtain ⟨M', h', hd⟩ : ∃ M' h', wTakeI M ⟨th, lk, 9, rd, x⟩ = (M', h') := ⟨_, _, rfl⟩
        obtain ⟨t3, l3, s', r3, x'⟩ := h'
        have hln : M'.L.length = 48 := by have h := wTakeI_len M ⟨th, lk, 9, rd, x⟩; rw [hd] at h; exact h.trans HM.out
        have HD := Lib.hid hd; have HI' := Lib.hid hln
        clear hd hln
        obtain ⟨m0, m1, m2, m3, m4⟩ := HBm.out _ HX2.out.r.t.s.kp
        obtain ⟨n0, n1, n2, n3, n4⟩ := HFm.out _ HX2.out.r.t.s.kp
        obtain ⟨u0, u1, u2, u3, u4⟩ := HX2.out.r.x.at ht HFT.out
        obtain ⟨v0, v1, v2, v3, v4⟩ := HX2.out.r.y.at ht HFT.out
        have hxl := HX2.out.r.x.lt
        have hyl := HX2.out.r.y.lt
        go_upto_region 22 with fail
        have hXd := HX2.out.no ((Keeps.refl NoS _).drew)
        refine wp_region_kept_drew 15 (fun w' => (w'.cell? ⟨G, t * 5, none⟩ = some (.int .i64 th) ∧ w'.cell? ⟨G, t * 5 + 1, none⟩ = some (.int .i64 lk) ∧ w'.cell? ⟨G, t * 5 + 2, none⟩ = some (.int .i64 9) ∧ w'.cell? ⟨G, t * 5 + 3, none⟩ = some (.bool rd) ∧ w'.cell? ⟨G, t * 5 + 4, none⟩ = some (.int .i64 x)) ∧ (w'.cell? ⟨(G + 1), t * 5, none⟩ = some (.int .i64 th) ∧ w'.cell? ⟨(G + 1), t * 5 + 1, none⟩ = some (.int .i64 lk) ∧ w'.cell? ⟨(G + 1), t * 5 + 2, none⟩ = some (.int .i64 9) ∧ w'.cell? ⟨(G + 1), t * 5 + 3, none⟩ = some (.bool rd) ∧ w'.cell? ⟨(G + 1), t * 5 + 4, none⟩ = some (.int .i64 x)) ∧ (w'.cell? ⟨B, 0, none⟩ = some (.int .i64 2) ∧ w'.cell? ⟨B, 1, none⟩ = some (.int .i64 2) ∧ w'.cell? ⟨B, 2, none⟩ = some (.int .i64 4) ∧ w'.cell? ⟨B, 3, none⟩ = some (.int .i64 0) ∧ w'.cell? ⟨B, 4, none⟩ = some (.int .i64 2)) ∧ (w'.cell? ⟨F, 0, none⟩ = some (.int .i64 2) ∧ w'.cell? ⟨F, 1, none⟩ = some (.int .i64 2) ∧ w'.cell? ⟨F, 2, none⟩ = some (.int .i64 4) ∧ w'.cell? ⟨F, 3, none⟩ = some (.int .i64 0) ∧ w'.cell? ⟨F, 4, none⟩ = some (.int .i64 2))) 17 (fun w' => (w'.cell? ⟨(G + 1), t * 5, none⟩ = some (.int .i64 th) ∧ w'.cell? ⟨(G + 1), t * 5 + 1, none⟩ = some (.int .i64 lk) ∧ w'.cell? ⟨(G + 1), t * 5 + 2, none⟩ = some (.int .i64 9) ∧ w'.cell? ⟨(G + 1), t * 5 + 3, none⟩ = some (.bool rd) ∧ w'.cell? ⟨(G + 1), t * 5 + 4, none⟩ = some (.int .i64 x)) ∧ (w'.cell? ⟨B, 0, none⟩ = some (.int .i64 2) ∧ w'.cell? ⟨B, 1, none⟩ = some (.int .i64 2) ∧ w'.cell? ⟨B, 2, none⟩ = some (.int .i64 4) ∧ w'.cell? ⟨B, 3, none⟩ = some (.int .i64 0) ∧ w'.cell? ⟨B, 4, none⟩ = some (.int .i64 2)) ∧ (w'.cell? ⟨F, 0, none⟩ = some (.int .i64 2) ∧ w'.cell? ⟨F, 1, none⟩ = some (.int .i64 2) ∧ w'.cell? ⟨F, 2, none⟩ = some (.int .i64 4) ∧ w'.cell? ⟨F, 3, none⟩ = some (.int .i64 0) ∧ w'.cell? ⟨F, 4, none⟩ = some (.int .i64 2))) (by kernel_rfl) (⟨⟨u0, u1, u2, u3, u4⟩, ⟨v0, v1, v2, v3, v4⟩, ⟨m0, m1, m2, m3, m4⟩, ⟨n0, n1, n2, n3, n4⟩⟩) (⟨⟨v0, v1, v2, v3, v4⟩, ⟨m0, m1, m2, m3, m4⟩, ⟨n0, n1, n2, n3, n4⟩⟩) (fun hK => ?_)
        refine wpAnyK_take1 (i := 0) (v := ?_) (by simp only [List.getElem?_toArray, List.getElem?_cons_succ, List.getElem?_cons_zero]; rfl) (by kernel_rfl) (by kernel_rfl) (by kernel_rfl) (by kernel_rfl) (by kernel_rfl) (by kernel_rfl) (by exact fun _ _ _ h => h) (Or.inl ⟨by rfl, ?_⟩) (hK _) ?_
        rotate_left
        · intro w hSw; (try dsimp only at hSw); go_simp; (try with_reducible rfl)
        try simp only [Act.put, List.setIfInBounds_toArray, List.set_cons_zero, List.set_cons_succ]
        refine wpAnyK_take2 (i := 1) (v := ?_) (by simp only [List.getElem?_toArray, List.getElem?_cons_succ, List.getElem?_cons_zero]; rfl) (by kernel_rfl) (by kernel_rfl) (by kernel_rfl) (by kernel_rfl) (by kernel_rfl) (by kernel_rfl) (by exact fun _ _ _ h => h) (Or.inl ⟨by rfl, ?_⟩) (hK _) ?_
        rotate_left
        · intro w hSw; (try dsimp only at hSw); go_simp; (try with_reducible rfl)
        try simp only [Act.put, List.setIfInBounds_toArray, List.set_cons_zero, List.set_cons_succ]
        refine wpAnyK_take1 (i := 2) (v := ?_) (by simp only [List.getElem?_toArray, List.getElem?_cons_succ, List.getElem?_cons_zero]; rfl) (by kernel_rfl) (by kernel_rfl) (by kernel_rfl) (by kernel_rfl) (by kernel_rfl) (by kernel_rfl) (by exact fun _ _ _ h => h) (Or.inl ⟨by rfl, ?_⟩) (hK _) ?_
        rotate_left
        · intro w hSw; (try dsimp only at hSw); go_simp; (try with_reducible rfl)
        try simp only [Act.put, List.setIfInBounds_toArray, List.set_cons_zero, List.set_cons_succ]
        refine wpAnyK_take1 (i := 3) (v := ?_) (by simp only [List.getElem?_toArray, List.getElem?_cons_succ, List.getElem?_cons_zero]; rfl) (by kernel_rfl) (by kernel_rfl) (by kernel_rfl) (by kernel_rfl) (by kernel_rfl) (by kernel_rfl) (by exact fun _ _ _ h => h) (Or.inl ⟨by rfl, ?_⟩) (hK _) ?_
        rotate_left
        · intro w hSw; (try dsimp only at hSw); go_simp; (try with_reducible rfl)
        try simp only [Act.put, List.setIfInBounds_toArray, List.set_cons_zero, List.set_cons_succ]
        refine wpAnyK_take1 (i := 4) (v := ?_) (by simp only [List.getElem?_toArray, List.getElem?_cons_succ, List.getElem?_cons_zero]; rfl) (by kernel_rfl) (by kernel_rfl) (by kernel_rfl) (by kernel_rfl) (by kernel_rfl) (by kernel_rfl) (by exact fun _ _ _ h => h) (Or.inl ⟨by rfl, ?_⟩) (hK _) ?_
        rotate_left
        · intro w hSw; (try dsimp only at hSw); go_simp; (try with_reducible rfl)
        try simp only [Act.put, List.setIfInBounds_toArray, List.set_cons_zero, List.set_cons_succ]
        refine wpAnyK_take1 (i := 5) (v := ?_) (by simp only [List.getElem?_toArray, List.getElem?_cons_succ, List.getElem?_cons_zero]; rfl) (by kernel_rfl) (by kernel_rfl) (by kernel_rfl) (by kernel_rfl) (by kernel_rfl) (by kernel_rfl) (by exact fun _ _ _ h => h) (Or.inl ⟨by rfl, ?_⟩) (hK _) ?_
        rotate_left
        · intro w hSw; (try dsimp only at hSw); go_simp; (try with_reducible rfl)
        try simp only [Act.put, List.setIfInBounds_toArray, List.set_cons_zero, List.set_cons_succ]
        refine wpAnyK_take1 (i := 6) (v := ?_) (by simp only [List.getElem?_toArray, List.getElem?_cons_succ, List.getElem?_cons_zero]; rfl) (by kernel_rfl) (by kernel_rfl) (by kernel_rfl) (by kernel_rfl) (by kernel_rfl) (by kernel_rfl) (by exact fun _ _ _ h => h) (Or.inl ⟨by rfl, ?_⟩) (hK _) ?_
        rotate_left
        · intro w hSw; (try dsimp only at hSw); go_simp; (try with_reducible rfl)
        try simp only [Act.put, List.setIfInBounds_toArray, List.set_cons_zero, List.set_cons_succ]
        refine wpAnyK_take2 (i := 8) (v := ?_) (by simp only [List.getElem?_toArray, List.getElem?_cons_succ, List.getElem?_cons_zero]; rfl) (by kernel_rfl) (by kernel_rfl) (by kernel_rfl) (by kernel_rfl) (by kernel_rfl) (by kernel_rfl) (by exact fun _ _ _ h => h) (Or.inl ⟨by rfl, ?_⟩) (hK _) ?_
        rotate_left
        · intro w hSw; (try dsimp only at hSw); go_simp; (try with_reducible rfl)
        try simp only [Act.put, List.setIfInBounds_toArray, List.set_cons_zero, List.set_cons_succ]
        refine wpAnyK_take2 (i := 9) (v := ?_) (by simp only [List.getElem?_toArray, List.getElem?_cons_succ, List.getElem?_cons_zero]; rfl) (by kernel_rfl) (by kernel_rfl) (by kernel_rfl) (by kernel_rfl) (by kernel_rfl) (by kernel_rfl) (by exact fun _ _ _ h => h) (Or.inl ⟨by rfl, ?_⟩) (hK _) ?_
        rotate_left
        · intro w hSw; (try dsimp only at hSw); go_simp; (try with_reducible rfl)
        try simp only [Act.put, List.setIfInBounds_toArray, List.set_cons_zero, List.set_cons_succ]
        refine wpAnyK_take2 (i := 10) (v := ?_) (by simp only [List.getElem?_toArray, List.getElem?_cons_succ, List.getElem?_cons_zero]; rfl) (by kernel_rfl) (by kernel_rfl) (by kernel_rfl) (by kernel_rfl) (by kernel_rfl) (by kernel_rfl) (by exact fun _ _ _ h => h) (Or.inl ⟨by rfl, ?_⟩) (hK _) ?_
        rotate_left
        · intro w hSw; (try dsimp only at hSw); go_simp; (try with_reducible rfl)
        try simp only [Act.put, List.setIfInBounds_toArray, List.set_cons_zero, List.set_cons_succ]
        refine wpAnyK_take2 (i := 11) (v := ?_) (by simp only [List.getElem?_toArray, List.getElem?_cons_succ, List.getElem?_cons_zero]; rfl) (by kernel_rfl) (by kernel_rfl) (by kernel_rfl) (by kernel_rfl) (by kernel_rfl) (by kernel_rfl) (by exact fun _ _ _ h => h) (Or.inl ⟨by rfl, ?_⟩) (hK _) ?_
        rotate_left
        · intro w hSw; (try dsimp only at hSw); go_simp; (try with_reducible rfl)
        try simp only [Act.put, List.setIfInBounds_toArray, List.set_cons_zero, List.set_cons_succ]
        refine wpAnyK_take2 (i := 12) (v := ?_) (by simp only [List.getElem?_toArray, List.getElem?_cons_succ, List.getElem?_cons_zero]; rfl) (by kernel_rfl) (by kernel_rfl) (by kernel_rfl) (by kernel_rfl) (by kernel_rfl) (by kernel_rfl) (by exact fun _ _ _ h => h) (Or.inl ⟨by rfl, ?_⟩) (hK _) ?_
        rotate_left
        · intro w hSw; (try dsimp only at hSw); go_simp; (try with_reducible rfl)
        try simp only [Act.put, List.setIfInBounds_toArray, List.set_cons_zero, List.set_cons_succ]
        refine wpAnyK_one (i := 7) (by kernel_rfl) (by simp only [List.getElem?_toArray, List.getElem?_cons_succ, List.getElem?_cons_zero]; rfl) (fun kC hkC => ?_)
        go_simp
        refine (rwtake8_any th lk 9 rd x a v M _ hXd.r.t.s.m HM.out).mono ?_; rw [HD.out]; unfold handV; dsimp only; rintro e w5 ⟨rfl, hm, hk⟩; have hT5 := hXd.r.t.turnS hm hk; have hx5 := hXd.r.x.keep hk (HA.out.na (Nat.le_refl _)); have hy5 := hXd.r.y.keep hk (HA.out.na (by omega)); have hb5 := hXd.b.keep hk (HA.out.na (by omega)); have m5 := HBm.out _ hT5.s.kp; have n5 := HFm.out _ hT5.s.kp; have hX5 := hx5.at ht HFT.out; have hY5 := hy5.at ht HFT.out; clear hm hk
        (try go_wp2_with fail)
        refine hkC.out _ _ (⟨hX5, hY5, m5, n5⟩) (⟨hY5, m5, n5⟩) (fun hK => ?_)
        clear hkC kC
        try simp only [Act.put, List.setIfInBounds_toArray, List.set_cons_zero, List.set_cons_succ]
        refine wpAnyK_take1 (i := 14) (v := ?_) (by simp only [List.getElem?_toArray, List.getElem?_cons_succ, List.getElem?_cons_zero]; rfl) (by kernel_rfl) (by kernel_rfl) (by kernel_rfl) (by kernel_rfl) (by kernel_rfl) (by kernel_rfl) (by exact fun _ _ _ h => h) (Or.inl ⟨by rfl, ?_⟩) (hK _) ?_
        rotate_left
        · intro w hSw; (try dsimp only at hSw); go_simp; (try with_reducible rfl)
        try simp only [Act.put, List.setIfInBounds_toArray, List.set_cons_zero, List.set_cons_succ]
        refine wpAnyK_one (i := 13) (by kernel_rfl) (by simp only [List.getElem?_toArray, List.getElem?_cons_succ, List.getElem?_cons_zero]; rfl) (fun kC hkC => ?_)
        go_simp
        refine (rrwtake8_any th lk 9 rd x c u M _ hT5.r.m HM.out).mono ?_; rw [HD.out]; unfold handV; dsimp only; rintro e w7 ⟨rfl, hm, hk⟩; have hT7 := hT5.turnR hm hk; have hx7 := hx5.keep hk (HA.out.nc (Nat.le_refl _)); have hy7 := hy5.keep hk (HA.out.nc (by omega)); have hb7 := hb5.keep hk (HA.out.nc (by omega)); have m7 := HBm.out _ hT7.s.kp; have n7 := HFm.out _ hT7.s.kp; have hX7 := hx7.at ht HFT.out; have hY7 := hy7.at ht HFT.out; obtain ⟨F0, F1, F2, F3, F4⟩ := hx7.frees t; obtain ⟨G0, G1, G2, G3, G4⟩ := hy7.frees t; have hl7 := hy7.lt; have hput7 := RnS.put ⟨⟨hT7, hx7, hy7⟩, hb7⟩ HA.out t ht ⟨t3, l3, s', r3, x'⟩; have HP := Lib.hid hput7; have hyS := (hy7.outH (G' := G) (by omega) t ⟨t3, l3, s', r3, x'⟩).at ht HFT.out; have mS := HBm.out _ (hT7.s.kp.setH (g := G) hWB t ⟨t3, l3, s', r3, x'⟩); have nS := HFm.out _ (hT7.s.kp.setH (g := G) hWB t ⟨t3, l3, s', r3, x'⟩); unfold setH at hyS mS nS; dsimp only at hyS mS nS; clear hm hk hput7
        (try go_wp2_with fail)
        refine hkC.out _ _ (⟨hX7, hY7, m7, n7⟩) (⟨hY7, m7, n7⟩) (fun hK => ?_)
        clear hkC kC
        try simp only [Act.put, List.setIfInBounds_toArray, List.set_cons_zero, List.set_cons_succ]
        refine wpAnyK_mid (i := 15) (by kernel_rfl) (by simp only [List.getElem?_toArray, List.getElem?_cons_succ, List.getElem?_cons_zero]; rfl) (by kernel_rfl) (fun kC hkC => ?_)
        go_simp
        refine hkC.out _ _ (⟨hyS, mS, nS⟩) (fun hM => ?_)
        clear hkC kC
        try simp only [Act.put, List.setIfInBounds_toArray, List.set_cons_zero, List.set_cons_succ]
        refine wpAnyK_take2 (i := 16) (v := ?_) (by simp only [List.getElem?_toArray, List.getElem?_cons_succ, List.getElem?_cons_zero]; rfl) (by kernel_rfl) (by kernel_rfl) (by kernel_rfl) (by kernel_rfl) (by kernel_rfl) (by kernel_rfl) (by exact fun _ _ _ h => h) (Or.inl ⟨by rfl, ?_⟩) (ReqK.mid (by kernel_rfl) hM) ?_
        rotate_left
        · intro w hSw; (try dsimp only at hSw); go_simp; (try with_reducible rfl)
        try simp only [Act.put, List.setIfInBounds_toArray, List.set_cons_zero, List.set_cons_succ]
        refine wpAnyK_last (i := 17) (by kernel_rfl) (by simp only [List.getElem?_toArray, List.getElem?_cons_succ, List.getElem?_cons_zero]; rfl) (by kernel_rfl) (by kernel_rfl) (fun kC hkC => ?_)
        go_simp
        refine hkC.out _ _ ?_
        clear hkC kC
        try simp only [Act.put, List.setIfInBounds_toArray, List.set_cons_zero, List.set_cons_succ]
        refine wpAnyK_done (by kernel_rfl) ?_ _
        have hP := HP.out
        unfold setH at hP
        dsimp only at hP
        generalize (((((((((w7.setCell ⟨G, t * 5, none⟩ (.int .i64 t3)).setCell ⟨G, t * 5 + 1, none⟩ (.int .i64 l3)).setCell ⟨G, t * 5 + 2, none⟩ (.int .i64 s')).setCell ⟨G, t * 5 + 3, none⟩ (.bool r3)).setCell ⟨G, t * 5 + 4, none⟩ (.int .i64 x')).setCell ⟨(G + 1), t * 5, none⟩ (.int .i64 t3)).setCell ⟨(G + 1), t * 5 + 1, none⟩ (.int .i64 l3)).setCell ⟨(G + 1), t * 5 + 2, none⟩ (.int .i64 s')).setCell ⟨(G + 1), t * 5 + 3, none⟩ (.bool r3)).setCell ⟨(G + 1), t * 5 + 4, none⟩ (.int .i64 x') = wz at *
        have hft' := hput_at (f := f) (t := t) (h := ⟨t3, l3, s', r3, x'⟩)
        generalize hput f t ⟨t3, l3, s', r3, x'⟩ = f' at *
        have HX' := Lib.hid hP; have HFT' := Lib.hid hft'
        clear hP HP hft' hT5 hT7 hx5 hx7 hy5 hy7 hb5 hb7 m5 m7 n5 n7 hX5 hX7 hY5 hY7 F0 F1 F2 F3 F4 G0 G1 G2 G3 G4 hl7 hyS mS nS hXd hK u0 u1 u2 u3 u4 v0 v1 v2 v3 v4 m0 m1 m2 m3 m4 n0 n1 n2 n3 n4 HX2 hxl hyl
        cases r3
        · obtain ⟨u0, u1, u2, u3, u4⟩ := HX'.out.r.x.at ht HFT'.out
          obtain ⟨v0, v1, v2, v3, v4⟩ := HX'.out.r.y.at ht HFT'.out
          have hTd := HX'.out.r.t.keep ((Keeps.refl NoS _).drew)
          go_wp2_with fail
          refine wp_region_held_drew (S := (fun w' => (w'.cell? ⟨G, t * 5, none⟩ = some (.int .i64 t3) ∧ w'.cell? ⟨G, t * 5 + 1, none⟩ = some (.int .i64 l3) ∧ w'.cell? ⟨G, t * 5 + 2, none⟩ = some (.int .i64 s') ∧ w'.cell? ⟨G, t * 5 + 3, none⟩ = some (.bool false) ∧ w'.cell? ⟨G, t * 5 + 4, none⟩ = some (.int .i64 x')) ∧ (w'.cell? ⟨(G + 1), t * 5, none⟩ = some (.int .i64 t3) ∧ w'.cell? ⟨(G + 1), t * 5 + 1, none⟩ = some (.int .i64 l3) ∧ w'.cell? ⟨(G + 1), t * 5 + 2, none⟩ = some (.int .i64 s') ∧ w'.cell? ⟨(G + 1), t * 5 + 3, none⟩ = some (.bool false) ∧ w'.cell? ⟨(G + 1), t * 5 + 4, none⟩ = some (.int .i64 x')))) (by kernel_rfl) (⟨⟨u0, u1, u2, u3, u4⟩, ⟨v0, v1, v2, v3, v4⟩⟩) (fun hHeld => ?_)
          refine wpAnyH_take (i := 0) (v := ?_) (by simp only [List.getElem?_toArray, List.getElem?_cons_succ, List.getElem?_cons_zero]; rfl) (by kernel_rfl) (by kernel_rfl) (by kernel_rfl) (by exact fun _ _ _ h => h) (Or.inl ⟨by rfl, ?_⟩) hHeld ?_
          rotate_left
          · intro w hSw; (try dsimp only at hSw); go_simp; (try with_reducible rfl)
          try simp only [Act.put, List.setIfInBounds_toArray, List.set_cons_zero, List.set_cons_succ]
          refine wpAnyH_take (i := 1) (v := ?_) (by simp only [List.getElem?_toArray, List.getElem?_cons_succ, List.getElem?_cons_zero]; rfl) (by kernel_rfl) (by kernel_rfl) (by kernel_rfl) (by exact fun _ _ _ h => h) (Or.inl ⟨by rfl, ?_⟩) hHeld ?_
          rotate_left
          · intro w hSw; (try dsimp only at hSw); go_simp; (try with_reducible rfl)
          try simp only [Act.put, List.setIfInBounds_toArray, List.set_cons_zero, List.set_cons_succ]
          refine wpAnyH_take (i := 2) (v := ?_) (by simp only [List.getElem?_toArray, List.getElem?_cons_succ, List.getElem?_cons_zero]; rfl) (by kernel_rfl) (by kernel_rfl) (by kernel_rfl) (by exact fun _ _ _ h => h) (Or.inl ⟨by rfl, ?_⟩) hHeld ?_
          rotate_left
          · intro w hSw; (try dsimp only at hSw); go_simp; (try with_reducible rfl)
          try simp only [Act.put, List.setIfInBounds_toArray, List.set_cons_zero, List.set_cons_succ]
          refine wpAnyH_take (i := 3) (v := ?_) (by simp only [List.getElem?_toArray, List.getElem?_cons_succ, List.getElem?_cons_zero]; rfl) (by kernel_rfl) (by kernel_rfl) (by kernel_rfl) (by exact fun _ _ _ h => h) (Or.inl ⟨by rfl, ?_⟩) hHeld ?_
          rotate_left
          · intro w hSw; (try dsimp only at hSw); go_simp; (try with_reducible rfl)
          try simp only [Act.put, List.setIfInBounds_toArray, List.set_cons_zero, List.set_cons_succ]
          refine wpAnyH_take (i := 4) (v := ?_) (by simp only [List.getElem?_toArray, List.getElem?_cons_succ, List.getElem?_cons_zero]; rfl) (by kernel_rfl) (by kernel_rfl) (by kernel_rfl) (by exact fun _ _ _ h => h) (Or.inl ⟨by rfl, ?_⟩) hHeld ?_
          rotate_left
          · intro w hSw; (try dsimp only at hSw); go_simp; (try with_reducible rfl)
          try simp only [Act.put, List.setIfInBounds_toArray, List.set_cons_zero, List.set_cons_succ]
          refine wpAnyH_take (i := 5) (v := ?_) (by simp only [List.getElem?_toArray, List.getElem?_cons_succ, List.getElem?_cons_zero]; rfl) (by kernel_rfl) (by kernel_rfl) (by kernel_rfl) (by exact fun _ _ _ h => h) (Or.inl ⟨by rfl, ?_⟩) hHeld ?_
          rotate_left
          · intro w hSw; (try dsimp only at hSw); go_simp; (try with_reducible rfl)
          try simp only [Act.put, List.setIfInBounds_toArray, List.set_cons_zero, List.set_cons_succ]
          refine wpAnyH_take (i := 6) (v := ?_) (by simp only [List.getElem?_toArray, List.getElem?_cons_succ, List.getElem?_cons_zero]; rfl) (by kernel_rfl) (by kernel_rfl) (by kernel_rfl) (by exact fun _ _ _ h => h) (Or.inl ⟨by rfl, ?_⟩) hHeld ?_
          rotate_left
          · intro w hSw; (try dsimp only at hSw); go_simp; (try with_reducible rfl)
          try simp only [Act.put, List.setIfInBounds_toArray, List.set_cons_zero, List.set_cons_succ]
          refine wpAnyH_take (i := 7) (v := ?_) (by simp only [List.getElem?_toArray, List.getElem?_cons_succ, List.getElem?_cons_zero]; rfl) (by kernel_rfl) (by kernel_rfl) (by kernel_rfl) (by exact fun _ _ _ h => h) (Or.inl ⟨by rfl, ?_⟩) hHeld ?_
          rotate_left
          · intro w hSw; (try dsimp only at hSw); go_simp; (try with_reducible rfl)
          try simp only [Act.put, List.setIfInBounds_toArray, List.set_cons_zero, List.set_cons_succ]
          refine wpAnyH_take (i := 8) (v := ?_) (by simp only [List.getElem?_toArray, List.getElem?_cons_succ, List.getElem?_cons_zero]; rfl) (by kernel_rfl) (by kernel_rfl) (by kernel_rfl) (by exact fun _ _ _ h => h) (Or.inl ⟨by rfl, ?_⟩) hHeld ?_
          rotate_left
          · intro w hSw; (try dsimp only at hSw); go_simp; (try with_reducible rfl)
          try simp only [Act.put, List.setIfInBounds_toArray, List.set_cons_zero, List.set_cons_succ]
          refine wpAnyH_take (i := 9) (v := ?_) (by simp only [List.getElem?_toArray, List.getElem?_cons_succ, List.getElem?_cons_zero]; rfl) (by kernel_rfl) (by kernel_rfl) (by kernel_rfl) (by exact fun _ _ _ h => h) (Or.inl ⟨by rfl, ?_⟩) hHeld ?_
          rotate_left
          · intro w hSw; (try dsimp only at hSw); go_simp; (try with_reducible rfl)
          try simp only [Act.put, List.setIfInBounds_toArray, List.set_cons_zero, List.set_cons_succ]
          refine wpAnyH_ready (rs := [10]) (by kernel_rfl) (by simp) ?_
          refine AllReadyH.cons (by simp only [List.getElem?_toArray, List.getElem?_cons_succ, List.getElem?_cons_zero]; rfl) (fun kC hkC => ?_) AllReadyH.nil
          go_simp
          refine (like_keep W _ a c v u M' hTd).mono ?_; rintro e w8 ⟨rfl, hT8, hk8⟩; have hX8 := (HX'.out.no ((Keeps.refl NoS _).drew)).no hk8
          (try go_wp2_with fail)
          refine hkC.out _ _ (And.intro (hX8.r.x.at ht HFT'.out) (hX8.r.y.at ht HFT'.out)) (fun hHeld => ?_)
          clear hkC kC
          try simp only [Act.put, List.setIfInBounds_toArray, List.set_cons_zero, List.set_cons_succ]
          refine wpAnyH_take (i := 11) (v := ?_) (by simp only [List.getElem?_toArray, List.getElem?_cons_succ, List.getElem?_cons_zero]; rfl) (by kernel_rfl) (by kernel_rfl) (by kernel_rfl) (by exact fun _ _ _ h => h) (Or.inl ⟨by rfl, ?_⟩) hHeld ?_
          rotate_left
          · intro w hSw; (try dsimp only at hSw); go_simp; (try with_reducible rfl)
          try simp only [Act.put, List.setIfInBounds_toArray, List.set_cons_zero, List.set_cons_succ]
          refine wpAnyH_take (i := 12) (v := ?_) (by simp only [List.getElem?_toArray, List.getElem?_cons_succ, List.getElem?_cons_zero]; rfl) (by kernel_rfl) (by kernel_rfl) (by kernel_rfl) (by exact fun _ _ _ h => h) (Or.inl ⟨by rfl, ?_⟩) hHeld ?_
          rotate_left
          · intro w hSw; (try dsimp only at hSw); go_simp; (try with_reducible rfl)
          try simp only [Act.put, List.setIfInBounds_toArray, List.set_cons_zero, List.set_cons_succ]
          refine wpAnyH_done (by kernel_rfl) ?_ _
          go_wp2_with fail
          go_roundw
          case rel => exact ⟨n + 1, M', f', _, by omega, by go_num, hX8, HI'.out⟩
          case measure => simp [intOf]; omega
        · obtain ⟨u0, u1, u2, u3, u4⟩ := HX'.out.r.x.at ht HFT'.out
          obtain ⟨v0, v1, v2, v3, v4⟩ := HX'.out.r.y.at ht HFT'.out
          have hTd := HX'.out.r.t.keep ((Keeps.refl NoS _).drew)
          go_wp2_with fail
          refine wp_region_held_drew (S := (fun w' => (w'.cell? ⟨G, t * 5, none⟩ = some (.int .i64 t3) ∧ w'.cell? ⟨G, t * 5 + 1, none⟩ = some (.int .i64 l3) ∧ w'.cell? ⟨G, t * 5 + 2, none⟩ = some (.int .i64 s') ∧ w'.cell? ⟨G, t * 5 + 3, none⟩ = some (.bool true) ∧ w'.cell? ⟨G, t * 5 + 4, none⟩ = some (.int .i64 x')) ∧ (w'.cell? ⟨(G + 1), t * 5, none⟩ = some (.int .i64 t3) ∧ w'.cell? ⟨(G + 1), t * 5 + 1, none⟩ = some (.int .i64 l3) ∧ w'.cell? ⟨(G + 1), t * 5 + 2, none⟩ = some (.int .i64 s') ∧ w'.cell? ⟨(G + 1), t * 5 + 3, none⟩ = some (.bool true) ∧ w'.cell? ⟨(G + 1), t * 5 + 4, none⟩ = some (.int .i64 x')))) (by kernel_rfl) (⟨⟨u0, u1, u2, u3, u4⟩, ⟨v0, v1, v2, v3, v4⟩⟩) (fun hHeld => ?_)
          refine wpAnyH_take (i := 0) (v := ?_) (by simp only [List.getElem?_toArray, List.getElem?_cons_succ, List.getElem?_cons_zero]; rfl) (by kernel_rfl) (by kernel_rfl) (by kernel_rfl) (by exact fun _ _ _ h => h) (Or.inl ⟨by rfl, ?_⟩) hHeld ?_
          rotate_left
          · intro w hSw; (try dsimp only at hSw); go_simp; (try with_reducible rfl)
          try simp only [Act.put, List.setIfInBounds_toArray, List.set_cons_zero, List.set_cons_succ]
          refine wpAnyH_take (i := 1) (v := ?_) (by simp only [List.getElem?_toArray, List.getElem?_cons_succ, List.getElem?_cons_zero]; rfl) (by kernel_rfl) (by kernel_rfl) (by kernel_rfl) (by exact fun _ _ _ h => h) (Or.inl ⟨by rfl, ?_⟩) hHeld ?_
          rotate_left
          · intro w hSw; (try dsimp only at hSw); go_simp; (try with_reducible rfl)
          try simp only [Act.put, List.setIfInBounds_toArray, List.set_cons_zero, List.set_cons_succ]
          refine wpAnyH_take (i := 2) (v := ?_) (by simp only [List.getElem?_toArray, List.getElem?_cons_succ, List.getElem?_cons_zero]; rfl) (by kernel_rfl) (by kernel_rfl) (by kernel_rfl) (by exact fun _ _ _ h => h) (Or.inl ⟨by rfl, ?_⟩) hHeld ?_
          rotate_left
          · intro w hSw; (try dsimp only at hSw); go_simp; (try with_reducible rfl)
          try simp only [Act.put, List.setIfInBounds_toArray, List.set_cons_zero, List.set_cons_succ]
          refine wpAnyH_take (i := 3) (v := ?_) (by simp only [List.getElem?_toArray, List.getElem?_cons_succ, List.getElem?_cons_zero]; rfl) (by kernel_rfl) (by kernel_rfl) (by kernel_rfl) (by exact fun _ _ _ h => h) (Or.inl ⟨by rfl, ?_⟩) hHeld ?_
          rotate_left
          · intro w hSw; (try dsimp only at hSw); go_simp; (try with_reducible rfl)
          try simp only [Act.put, List.setIfInBounds_toArray, List.set_cons_zero, List.set_cons_succ]
          refine wpAnyH_take (i := 4) (v := ?_) (by simp only [List.getElem?_toArray, List.getElem?_cons_succ, List.getElem?_cons_zero]; rfl) (by kernel_rfl) (by kernel_rfl) (by kernel_rfl) (by exact fun _ _ _ h => h) (Or.inl ⟨by rfl, ?_⟩) hHeld ?_
          rotate_left
          · intro w hSw; (try dsimp only at hSw); go_simp; (try with_reducible rfl)
          try simp only [Act.put, List.setIfInBounds_toArray, List.set_cons_zero, List.set_cons_succ]
          refine wpAnyH_take (i := 5) (v := ?_) (by simp only [List.getElem?_toArray, List.getElem?_cons_succ, List.getElem?_cons_zero]; rfl) (by kernel_rfl) (by kernel_rfl) (by kernel_rfl) (by exact fun _ _ _ h => h) (Or.inl ⟨by rfl, ?_⟩) hHeld ?_
          rotate_left
          · intro w hSw; (try dsimp only at hSw); go_simp; (try with_reducible rfl)
          try simp only [Act.put, List.setIfInBounds_toArray, List.set_cons_zero, List.set_cons_succ]
          refine wpAnyH_take (i := 6) (v := ?_) (by simp only [List.getElem?_toArray, List.getElem?_cons_succ, List.getElem?_cons_zero]; rfl) (by kernel_rfl) (by kernel_rfl) (by kernel_rfl) (by exact fun _ _ _ h => h) (Or.inl ⟨by rfl, ?_⟩) hHeld ?_
          rotate_left
          · intro w hSw; (try dsimp only at hSw); go_simp; (try with_reducible rfl)
          try simp only [Act.put, List.setIfInBounds_toArray, List.set_cons_zero, List.set_cons_succ]
          refine wpAnyH_take (i := 7) (v := ?_) (by simp only [List.getElem?_toArray, List.getElem?_cons_succ, List.getElem?_cons_zero]; rfl) (by kernel_rfl) (by kernel_rfl) (by kernel_rfl) (by exact fun _ _ _ h => h) (Or.inl ⟨by rfl, ?_⟩) hHeld ?_
          rotate_left
          · intro w hSw; (try dsimp only at hSw); go_simp; (try with_reducible rfl)
          try simp only [Act.put, List.setIfInBounds_toArray, List.set_cons_zero, List.set_cons_succ]
          refine wpAnyH_take (i := 8) (v := ?_) (by simp only [List.getElem?_toArray, List.getElem?_cons_succ, List.getElem?_cons_zero]; rfl) (by kernel_rfl) (by kernel_rfl) (by kernel_rfl) (by exact fun _ _ _ h => h) (Or.inl ⟨by rfl, ?_⟩) hHeld ?_
          rotate_left
          · intro w hSw; (try dsimp only at hSw); go_simp; (try with_reducible rfl)
          try simp only [Act.put, List.setIfInBounds_toArray, List.set_cons_zero, List.set_cons_succ]
          refine wpAnyH_take (i := 9) (v := ?_) (by simp only [List.getElem?_toArray, List.getElem?_cons_succ, List.getElem?_cons_zero]; rfl) (by kernel_rfl) (by kernel_rfl) (by kernel_rfl) (by exact fun _ _ _ h => h) (Or.inl ⟨by rfl, ?_⟩) hHeld ?_
          rotate_left
          · intro w hSw; (try dsimp only at hSw); go_simp; (try with_reducible rfl)
          try simp only [Act.put, List.setIfInBounds_toArray, List.set_cons_zero, List.set_cons_succ]
          refine wpAnyH_ready (rs := [10]) (by kernel_rfl) (by simp) ?_
          refine AllReadyH.cons (by simp only [List.getElem?_toArray, List.getElem?_cons_succ, List.getElem?_cons_zero]; rfl) (fun kC hkC => ?_) AllReadyH.nil
          go_simp
          refine (like_keep W _ a c v u M' hTd).mono ?_; rintro e w8 ⟨rfl, hT8, hk8⟩; have hX8 := (HX'.out.no ((Keeps.refl NoS _).drew)).no hk8
          (try go_wp2_with fail)
          refine hkC.out _ _ (And.intro (hX8.r.x.at ht HFT'.out) (hX8.r.y.at ht HFT'.out)) (fun hHeld => ?_)
          clear hkC kC
          try simp only [Act.put, List.setIfInBounds_toArray, List.set_cons_zero, List.set_cons_succ]
          refine wpAnyH_take (i := 11) (v := ?_) (by simp only [List.getElem?_toArray, List.getElem?_cons_succ, List.getElem?_cons_zero]; rfl) (by kernel_rfl) (by kernel_rfl) (by kernel_rfl) (by exact fun _ _ _ h => h) (Or.inl ⟨by rfl, ?_⟩) hHeld ?_
          rotate_left
          · intro w hSw; (try dsimp only at hSw); go_simp; (try with_reducible rfl)
          try simp only [Act.put, List.setIfInBounds_toArray, List.set_cons_zero, List.set_cons_succ]
          refine wpAnyH_take (i := 12) (v := ?_) (by simp only [List.getElem?_toArray, List.getElem?_cons_succ, List.getElem?_cons_zero]; rfl) (by kernel_rfl) (by kernel_rfl) (by kernel_rfl) (by exact fun _ _ _ h => h) (Or.inl ⟨by rfl, ?_⟩) hHeld ?_
          rotate_left
          · intro w hSw; (try dsimp only at hSw); go_simp; (try with_reducible rfl)
          try simp only [Act.put, List.setIfInBounds_toArray, List.set_cons_zero, List.set_cons_succ]
          refine wpAnyH_done (by kernel_rfl) ?_ _
          go_wp2_with fail
          go_roundw
          case rel => exact ⟨n + 1, M', f', _, by omega, by go_num, hX8, HI'.out⟩
          case measure => simp [intOf]; omega
      · have hoo := HX.out.out HA.out ht false
        go_upto_region 16 with fail
        have hcn2 := HCN.out _ hoo.r.t.s.kp
        generalize wr.setCell ⟨G + 1 + 1, t, none⟩ (.bool false) = wp at *
        have HXp := Lib.hid hoo
        clear cn y0 y1 y2 y3 y4 o1 o2 hol HX hoo
        obtain ⟨x0, x1, x2, x3, x4⟩ := HXp.out.r.x.at ht HFT.out
        obtain ⟨f0, f1, f2, f3, f4⟩ := HXp.out.r.x.frees t
        have hxl := HXp.out.r.x.lt
        have hx1 := HXp.out.r.x.setH t ht ⟨t, 0, 0, q4, 0⟩
        have hy1 := HXp.out.r.y.outH (G' := G) (by omega) t ⟨t, 0, 0, q4, 0⟩
        have HF := Lib.hid (HXp.out.put HA.out t ht ⟨t, 0, 0, q4, 0⟩)
        unfold setH at hx1 hy1
        dsimp only at hx1 hy1
        obtain ⟨wz, hwz⟩ : ∃ wz, setH wp G t ⟨t, 0, 0, q4, 0⟩ = wz := ⟨_, rfl⟩
        rw [hwz] at HF
        unfold setH at hwz
        dsimp only at hwz
        rw [hwz] at hx1 hy1
        have HWZ := Lib.hid hwz; have HX1 := Lib.hid hx1; have HY1 := Lib.hid hy1
        clear hwz hx1 hy1
        go_upto_region 17 with fail
        rw [HWZ.out]
        clear x0 x1 x2 x3 x4 f0 f1 f2 f3 f4 hxl hcn2 hz hq hq4 HCN HWZ
        obtain ⟨x0, x1, x2, x3, x4⟩ := HX1.out.at ht (hput_at (f := f) (t := t) (h := ⟨t, 0, 0, q4, 0⟩))
        obtain ⟨y0, y1, y2, y3, y4⟩ := HY1.out.at ht HFT.out
        obtain ⟨f0, f1, f2, f3, f4⟩ := HY1.out.frees t
        have hyl := HY1.out.lt
        have hxl := HX1.out.lt
        have hF2 := HF.out
        unfold setH at hF2
        dsimp only at hF2
        go_upto_region 18 with fail
        generalize ((((wz.setCell ⟨(G + 1), t * 5, none⟩ (.int .i64 t)).setCell ⟨(G + 1), t * 5 + 1, none⟩ (.int .i64 0)).setCell ⟨(G + 1), t * 5 + 2, none⟩ (.int .i64 0)).setCell ⟨(G + 1), t * 5 + 3, none⟩ (.bool q4)).setCell ⟨(G + 1), t * 5 + 4, none⟩ (.int .i64 0) = wy at *
        have HX2 := Lib.hid hF2
        clear hF2 HF HX1 HY1 x0 x1 x2 x3 x4 y0 y1 y2 y3 y4 f0 f1 f2 f3 f4 hyl hxl HXp
        have HFZ := Lib.hid (hput_at (f := f) (t := t) (h := ⟨t, 0, 0, q4, 0⟩))
        have o3 := HX2.out.b.cell ht
        simp only [bput, if_true] at o3
        obtain ⟨M', h', hd⟩ : ∃ M' h', wTakeI M ⟨t, 0, 0, q4, 0⟩ = (M', h') := ⟨_, _, rfl⟩
        obtain ⟨t3, l3, s', r3, x'⟩ := h'
        have hln : M'.L.length = 48 := by have h := wTakeI_len M ⟨t, 0, 0, q4, 0⟩; rw [hd] at h; exact h.trans HM.out
        have HD := Lib.hid hd; have HI' := Lib.hid hln
        clear hd hln
        obtain ⟨m0, m1, m2, m3, m4⟩ := HBm.out _ HX2.out.r.t.s.kp
        obtain ⟨n0, n1, n2, n3, n4⟩ := HFm.out _ HX2.out.r.t.s.kp
        obtain ⟨u0, u1, u2, u3, u4⟩ := HX2.out.r.x.at ht HFZ.out
        obtain ⟨v0, v1, v2, v3, v4⟩ := HX2.out.r.y.at ht HFZ.out
        have hxl := HX2.out.r.x.lt
        have hyl := HX2.out.r.y.lt
        go_upto_region 22 with fail
        have hXd := HX2.out.no ((Keeps.refl NoS _).drew)
        refine wp_region_kept_drew 15 (fun w' => (w'.cell? ⟨G, t * 5, none⟩ = some (.int .i64 t) ∧ w'.cell? ⟨G, t * 5 + 1, none⟩ = some (.int .i64 0) ∧ w'.cell? ⟨G, t * 5 + 2, none⟩ = some (.int .i64 0) ∧ w'.cell? ⟨G, t * 5 + 3, none⟩ = some (.bool q4) ∧ w'.cell? ⟨G, t * 5 + 4, none⟩ = some (.int .i64 0)) ∧ (w'.cell? ⟨(G + 1), t * 5, none⟩ = some (.int .i64 t) ∧ w'.cell? ⟨(G + 1), t * 5 + 1, none⟩ = some (.int .i64 0) ∧ w'.cell? ⟨(G + 1), t * 5 + 2, none⟩ = some (.int .i64 0) ∧ w'.cell? ⟨(G + 1), t * 5 + 3, none⟩ = some (.bool q4) ∧ w'.cell? ⟨(G + 1), t * 5 + 4, none⟩ = some (.int .i64 0)) ∧ (w'.cell? ⟨B, 0, none⟩ = some (.int .i64 2) ∧ w'.cell? ⟨B, 1, none⟩ = some (.int .i64 2) ∧ w'.cell? ⟨B, 2, none⟩ = some (.int .i64 4) ∧ w'.cell? ⟨B, 3, none⟩ = some (.int .i64 0) ∧ w'.cell? ⟨B, 4, none⟩ = some (.int .i64 2)) ∧ (w'.cell? ⟨F, 0, none⟩ = some (.int .i64 2) ∧ w'.cell? ⟨F, 1, none⟩ = some (.int .i64 2) ∧ w'.cell? ⟨F, 2, none⟩ = some (.int .i64 4) ∧ w'.cell? ⟨F, 3, none⟩ = some (.int .i64 0) ∧ w'.cell? ⟨F, 4, none⟩ = some (.int .i64 2))) 17 (fun w' => (w'.cell? ⟨(G + 1), t * 5, none⟩ = some (.int .i64 t) ∧ w'.cell? ⟨(G + 1), t * 5 + 1, none⟩ = some (.int .i64 0) ∧ w'.cell? ⟨(G + 1), t * 5 + 2, none⟩ = some (.int .i64 0) ∧ w'.cell? ⟨(G + 1), t * 5 + 3, none⟩ = some (.bool q4) ∧ w'.cell? ⟨(G + 1), t * 5 + 4, none⟩ = some (.int .i64 0)) ∧ (w'.cell? ⟨B, 0, none⟩ = some (.int .i64 2) ∧ w'.cell? ⟨B, 1, none⟩ = some (.int .i64 2) ∧ w'.cell? ⟨B, 2, none⟩ = some (.int .i64 4) ∧ w'.cell? ⟨B, 3, none⟩ = some (.int .i64 0) ∧ w'.cell? ⟨B, 4, none⟩ = some (.int .i64 2)) ∧ (w'.cell? ⟨F, 0, none⟩ = some (.int .i64 2) ∧ w'.cell? ⟨F, 1, none⟩ = some (.int .i64 2) ∧ w'.cell? ⟨F, 2, none⟩ = some (.int .i64 4) ∧ w'.cell? ⟨F, 3, none⟩ = some (.int .i64 0) ∧ w'.cell? ⟨F, 4, none⟩ = some (.int .i64 2))) (by kernel_rfl) (⟨⟨u0, u1, u2, u3, u4⟩, ⟨v0, v1, v2, v3, v4⟩, ⟨m0, m1, m2, m3, m4⟩, ⟨n0, n1, n2, n3, n4⟩⟩) (⟨⟨v0, v1, v2, v3, v4⟩, ⟨m0, m1, m2, m3, m4⟩, ⟨n0, n1, n2, n3, n4⟩⟩) (fun hK => ?_)
        refine wpAnyK_take1 (i := 0) (v := ?_) (by simp only [List.getElem?_toArray, List.getElem?_cons_succ, List.getElem?_cons_zero]; rfl) (by kernel_rfl) (by kernel_rfl) (by kernel_rfl) (by kernel_rfl) (by kernel_rfl) (by kernel_rfl) (by exact fun _ _ _ h => h) (Or.inl ⟨by rfl, ?_⟩) (hK _) ?_
        rotate_left
        · intro w hSw; (try dsimp only at hSw); go_simp; (try with_reducible rfl)
        try simp only [Act.put, List.setIfInBounds_toArray, List.set_cons_zero, List.set_cons_succ]
        refine wpAnyK_take2 (i := 1) (v := ?_) (by simp only [List.getElem?_toArray, List.getElem?_cons_succ, List.getElem?_cons_zero]; rfl) (by kernel_rfl) (by kernel_rfl) (by kernel_rfl) (by kernel_rfl) (by kernel_rfl) (by kernel_rfl) (by exact fun _ _ _ h => h) (Or.inl ⟨by rfl, ?_⟩) (hK _) ?_
        rotate_left
        · intro w hSw; (try dsimp only at hSw); go_simp; (try with_reducible rfl)
        try simp only [Act.put, List.setIfInBounds_toArray, List.set_cons_zero, List.set_cons_succ]
        refine wpAnyK_take1 (i := 2) (v := ?_) (by simp only [List.getElem?_toArray, List.getElem?_cons_succ, List.getElem?_cons_zero]; rfl) (by kernel_rfl) (by kernel_rfl) (by kernel_rfl) (by kernel_rfl) (by kernel_rfl) (by kernel_rfl) (by exact fun _ _ _ h => h) (Or.inl ⟨by rfl, ?_⟩) (hK _) ?_
        rotate_left
        · intro w hSw; (try dsimp only at hSw); go_simp; (try with_reducible rfl)
        try simp only [Act.put, List.setIfInBounds_toArray, List.set_cons_zero, List.set_cons_succ]
        refine wpAnyK_take1 (i := 3) (v := ?_) (by simp only [List.getElem?_toArray, List.getElem?_cons_succ, List.getElem?_cons_zero]; rfl) (by kernel_rfl) (by kernel_rfl) (by kernel_rfl) (by kernel_rfl) (by kernel_rfl) (by kernel_rfl) (by exact fun _ _ _ h => h) (Or.inl ⟨by rfl, ?_⟩) (hK _) ?_
        rotate_left
        · intro w hSw; (try dsimp only at hSw); go_simp; (try with_reducible rfl)
        try simp only [Act.put, List.setIfInBounds_toArray, List.set_cons_zero, List.set_cons_succ]
        refine wpAnyK_take1 (i := 4) (v := ?_) (by simp only [List.getElem?_toArray, List.getElem?_cons_succ, List.getElem?_cons_zero]; rfl) (by kernel_rfl) (by kernel_rfl) (by kernel_rfl) (by kernel_rfl) (by kernel_rfl) (by kernel_rfl) (by exact fun _ _ _ h => h) (Or.inl ⟨by rfl, ?_⟩) (hK _) ?_
        rotate_left
        · intro w hSw; (try dsimp only at hSw); go_simp; (try with_reducible rfl)
        try simp only [Act.put, List.setIfInBounds_toArray, List.set_cons_zero, List.set_cons_succ]
        refine wpAnyK_take1 (i := 5) (v := ?_) (by simp only [List.getElem?_toArray, List.getElem?_cons_succ, List.getElem?_cons_zero]; rfl) (by kernel_rfl) (by kernel_rfl) (by kernel_rfl) (by kernel_rfl) (by kernel_rfl) (by kernel_rfl) (by exact fun _ _ _ h => h) (Or.inl ⟨by rfl, ?_⟩) (hK _) ?_
        rotate_left
        · intro w hSw; (try dsimp only at hSw); go_simp; (try with_reducible rfl)
        try simp only [Act.put, List.setIfInBounds_toArray, List.set_cons_zero, List.set_cons_succ]
        refine wpAnyK_take1 (i := 6) (v := ?_) (by simp only [List.getElem?_toArray, List.getElem?_cons_succ, List.getElem?_cons_zero]; rfl) (by kernel_rfl) (by kernel_rfl) (by kernel_rfl) (by kernel_rfl) (by kernel_rfl) (by kernel_rfl) (by exact fun _ _ _ h => h) (Or.inl ⟨by rfl, ?_⟩) (hK _) ?_
        rotate_left
        · intro w hSw; (try dsimp only at hSw); go_simp; (try with_reducible rfl)
        try simp only [Act.put, List.setIfInBounds_toArray, List.set_cons_zero, List.set_cons_succ]
        refine wpAnyK_take2 (i := 8) (v := ?_) (by simp only [List.getElem?_toArray, List.getElem?_cons_succ, List.getElem?_cons_zero]; rfl) (by kernel_rfl) (by kernel_rfl) (by kernel_rfl) (by kernel_rfl) (by kernel_rfl) (by kernel_rfl) (by exact fun _ _ _ h => h) (Or.inl ⟨by rfl, ?_⟩) (hK _) ?_
        rotate_left
        · intro w hSw; (try dsimp only at hSw); go_simp; (try with_reducible rfl)
        try simp only [Act.put, List.setIfInBounds_toArray, List.set_cons_zero, List.set_cons_succ]
        refine wpAnyK_take2 (i := 9) (v := ?_) (by simp only [List.getElem?_toArray, List.getElem?_cons_succ, List.getElem?_cons_zero]; rfl) (by kernel_rfl) (by kernel_rfl) (by kernel_rfl) (by kernel_rfl) (by kernel_rfl) (by kernel_rfl) (by exact fun _ _ _ h => h) (Or.inl ⟨by rfl, ?_⟩) (hK _) ?_
        rotate_left
        · intro w hSw; (try dsimp only at hSw); go_simp; (try with_reducible rfl)
        try simp only [Act.put, List.setIfInBounds_toArray, List.set_cons_zero, List.set_cons_succ]
        refine wpAnyK_take2 (i := 10) (v := ?_) (by simp only [List.getElem?_toArray, List.getElem?_cons_succ, List.getElem?_cons_zero]; rfl) (by kernel_rfl) (by kernel_rfl) (by kernel_rfl) (by kernel_rfl) (by kernel_rfl) (by kernel_rfl) (by exact fun _ _ _ h => h) (Or.inl ⟨by rfl, ?_⟩) (hK _) ?_
        rotate_left
        · intro w hSw; (try dsimp only at hSw); go_simp; (try with_reducible rfl)
        try simp only [Act.put, List.setIfInBounds_toArray, List.set_cons_zero, List.set_cons_succ]
        refine wpAnyK_take2 (i := 11) (v := ?_) (by simp only [List.getElem?_toArray, List.getElem?_cons_succ, List.getElem?_cons_zero]; rfl) (by kernel_rfl) (by kernel_rfl) (by kernel_rfl) (by kernel_rfl) (by kernel_rfl) (by kernel_rfl) (by exact fun _ _ _ h => h) (Or.inl ⟨by rfl, ?_⟩) (hK _) ?_
        rotate_left
        · intro w hSw; (try dsimp only at hSw); go_simp; (try with_reducible rfl)
        try simp only [Act.put, List.setIfInBounds_toArray, List.set_cons_zero, List.set_cons_succ]
        refine wpAnyK_take2 (i := 12) (v := ?_) (by simp only [List.getElem?_toArray, List.getElem?_cons_succ, List.getElem?_cons_zero]; rfl) (by kernel_rfl) (by kernel_rfl) (by kernel_rfl) (by kernel_rfl) (by kernel_rfl) (by kernel_rfl) (by exact fun _ _ _ h => h) (Or.inl ⟨by rfl, ?_⟩) (hK _) ?_
        rotate_left
        · intro w hSw; (try dsimp only at hSw); go_simp; (try with_reducible rfl)
        try simp only [Act.put, List.setIfInBounds_toArray, List.set_cons_zero, List.set_cons_succ]
        refine wpAnyK_one (i := 7) (by kernel_rfl) (by simp only [List.getElem?_toArray, List.getElem?_cons_succ, List.getElem?_cons_zero]; rfl) (fun kC hkC => ?_)
        go_simp
        refine (rwtake8_any t 0 0 q4 0 a v M _ hXd.r.t.s.m HM.out).mono ?_; rw [HD.out]; unfold handV; dsimp only; rintro e w5 ⟨rfl, hm, hk⟩; have hT5 := hXd.r.t.turnS hm hk; have hx5 := hXd.r.x.keep hk (HA.out.na (Nat.le_refl _)); have hy5 := hXd.r.y.keep hk (HA.out.na (by omega)); have hb5 := hXd.b.keep hk (HA.out.na (by omega)); have m5 := HBm.out _ hT5.s.kp; have n5 := HFm.out _ hT5.s.kp; have hX5 := hx5.at ht HFZ.out; have hY5 := hy5.at ht HFZ.out; clear hm hk
        (try go_wp2_with fail)
        refine hkC.out _ _ (⟨hX5, hY5, m5, n5⟩) (⟨hY5, m5, n5⟩) (fun hK => ?_)
        clear hkC kC
        try simp only [Act.put, List.setIfInBounds_toArray, List.set_cons_zero, List.set_cons_succ]
        refine wpAnyK_take1 (i := 14) (v := ?_) (by simp only [List.getElem?_toArray, List.getElem?_cons_succ, List.getElem?_cons_zero]; rfl) (by kernel_rfl) (by kernel_rfl) (by kernel_rfl) (by kernel_rfl) (by kernel_rfl) (by kernel_rfl) (by exact fun _ _ _ h => h) (Or.inl ⟨by rfl, ?_⟩) (hK _) ?_
        rotate_left
        · intro w hSw; (try dsimp only at hSw); go_simp; (try with_reducible rfl)
        try simp only [Act.put, List.setIfInBounds_toArray, List.set_cons_zero, List.set_cons_succ]
        refine wpAnyK_one (i := 13) (by kernel_rfl) (by simp only [List.getElem?_toArray, List.getElem?_cons_succ, List.getElem?_cons_zero]; rfl) (fun kC hkC => ?_)
        go_simp
        refine (rrwtake8_any t 0 0 q4 0 c u M _ hT5.r.m HM.out).mono ?_; rw [HD.out]; unfold handV; dsimp only; rintro e w7 ⟨rfl, hm, hk⟩; have hT7 := hT5.turnR hm hk; have hx7 := hx5.keep hk (HA.out.nc (Nat.le_refl _)); have hy7 := hy5.keep hk (HA.out.nc (by omega)); have hb7 := hb5.keep hk (HA.out.nc (by omega)); have m7 := HBm.out _ hT7.s.kp; have n7 := HFm.out _ hT7.s.kp; have hX7 := hx7.at ht HFZ.out; have hY7 := hy7.at ht HFZ.out; obtain ⟨F0, F1, F2, F3, F4⟩ := hx7.frees t; obtain ⟨G0, G1, G2, G3, G4⟩ := hy7.frees t; have hl7 := hy7.lt; have hput7 := RnS.put ⟨⟨hT7, hx7, hy7⟩, hb7⟩ HA.out t ht ⟨t3, l3, s', r3, x'⟩; have HP := Lib.hid hput7; have hyS := (hy7.outH (G' := G) (by omega) t ⟨t3, l3, s', r3, x'⟩).at ht HFZ.out; have mS := HBm.out _ (hT7.s.kp.setH (g := G) hWB t ⟨t3, l3, s', r3, x'⟩); have nS := HFm.out _ (hT7.s.kp.setH (g := G) hWB t ⟨t3, l3, s', r3, x'⟩); unfold setH at hyS mS nS; dsimp only at hyS mS nS; clear hm hk hput7
        (try go_wp2_with fail)
        refine hkC.out _ _ (⟨hX7, hY7, m7, n7⟩) (⟨hY7, m7, n7⟩) (fun hK => ?_)
        clear hkC kC
        try simp only [Act.put, List.setIfInBounds_toArray, List.set_cons_zero, List.set_cons_succ]
        refine wpAnyK_mid (i := 15) (by kernel_rfl) (by simp only [List.getElem?_toArray, List.getElem?_cons_succ, List.getElem?_cons_zero]; rfl) (by kernel_rfl) (fun kC hkC => ?_)
        go_simp
        refine hkC.out _ _ (⟨hyS, mS, nS⟩) (fun hM => ?_)
        clear hkC kC
        try simp only [Act.put, List.setIfInBounds_toArray, List.set_cons_zero, List.set_cons_succ]
        refine wpAnyK_take2 (i := 16) (v := ?_) (by simp only [List.getElem?_toArray, List.getElem?_cons_succ, List.getElem?_cons_zero]; rfl) (by kernel_rfl) (by kernel_rfl) (by kernel_rfl) (by kernel_rfl) (by kernel_rfl) (by kernel_rfl) (by exact fun _ _ _ h => h) (Or.inl ⟨by rfl, ?_⟩) (ReqK.mid (by kernel_rfl) hM) ?_
        rotate_left
        · intro w hSw; (try dsimp only at hSw); go_simp; (try with_reducible rfl)
        try simp only [Act.put, List.setIfInBounds_toArray, List.set_cons_zero, List.set_cons_succ]
        refine wpAnyK_last (i := 17) (by kernel_rfl) (by simp only [List.getElem?_toArray, List.getElem?_cons_succ, List.getElem?_cons_zero]; rfl) (by kernel_rfl) (by kernel_rfl) (fun kC hkC => ?_)
        go_simp
        refine hkC.out _ _ ?_
        clear hkC kC
        try simp only [Act.put, List.setIfInBounds_toArray, List.set_cons_zero, List.set_cons_succ]
        refine wpAnyK_done (by kernel_rfl) ?_ _
        have hP := HP.out
        unfold setH at hP
        dsimp only at hP
        generalize (((((((((w7.setCell ⟨G, t * 5, none⟩ (.int .i64 t3)).setCell ⟨G, t * 5 + 1, none⟩ (.int .i64 l3)).setCell ⟨G, t * 5 + 2, none⟩ (.int .i64 s')).setCell ⟨G, t * 5 + 3, none⟩ (.bool r3)).setCell ⟨G, t * 5 + 4, none⟩ (.int .i64 x')).setCell ⟨(G + 1), t * 5, none⟩ (.int .i64 t3)).setCell ⟨(G + 1), t * 5 + 1, none⟩ (.int .i64 l3)).setCell ⟨(G + 1), t * 5 + 2, none⟩ (.int .i64 s')).setCell ⟨(G + 1), t * 5 + 3, none⟩ (.bool r3)).setCell ⟨(G + 1), t * 5 + 4, none⟩ (.int .i64 x') = wz at *
        have hft' := hput_at (f := (hput f t ⟨t, 0, 0, q4, 0⟩)) (t := t) (h := ⟨t3, l3, s', r3, x'⟩)
        generalize hput (hput f t ⟨t, 0, 0, q4, 0⟩) t ⟨t3, l3, s', r3, x'⟩ = f' at *
        have HX' := Lib.hid hP; have HFT' := Lib.hid hft'
        clear hP HP hft' hT5 hT7 hx5 hx7 hy5 hy7 hb5 hb7 m5 m7 n5 n7 hX5 hX7 hY5 hY7 F0 F1 F2 F3 F4 G0 G1 G2 G3 G4 hl7 hyS mS nS hXd hK u0 u1 u2 u3 u4 v0 v1 v2 v3 v4 m0 m1 m2 m3 m4 n0 n1 n2 n3 n4 HX2 hxl hyl
        cases r3
        · obtain ⟨u0, u1, u2, u3, u4⟩ := HX'.out.r.x.at ht HFT'.out
          obtain ⟨v0, v1, v2, v3, v4⟩ := HX'.out.r.y.at ht HFT'.out
          have hTd := HX'.out.r.t.keep ((Keeps.refl NoS _).drew)
          go_wp2_with fail
          refine wp_region_held_drew (S := (fun w' => (w'.cell? ⟨G, t * 5, none⟩ = some (.int .i64 t3) ∧ w'.cell? ⟨G, t * 5 + 1, none⟩ = some (.int .i64 l3) ∧ w'.cell? ⟨G, t * 5 + 2, none⟩ = some (.int .i64 s') ∧ w'.cell? ⟨G, t * 5 + 3, none⟩ = some (.bool false) ∧ w'.cell? ⟨G, t * 5 + 4, none⟩ = some (.int .i64 x')) ∧ (w'.cell? ⟨(G + 1), t * 5, none⟩ = some (.int .i64 t3) ∧ w'.cell? ⟨(G + 1), t * 5 + 1, none⟩ = some (.int .i64 l3) ∧ w'.cell? ⟨(G + 1), t * 5 + 2, none⟩ = some (.int .i64 s') ∧ w'.cell? ⟨(G + 1), t * 5 + 3, none⟩ = some (.bool false) ∧ w'.cell? ⟨(G + 1), t * 5 + 4, none⟩ = some (.int .i64 x')))) (by kernel_rfl) (⟨⟨u0, u1, u2, u3, u4⟩, ⟨v0, v1, v2, v3, v4⟩⟩) (fun hHeld => ?_)
          refine wpAnyH_take (i := 0) (v := ?_) (by simp only [List.getElem?_toArray, List.getElem?_cons_succ, List.getElem?_cons_zero]; rfl) (by kernel_rfl) (by kernel_rfl) (by kernel_rfl) (by exact fun _ _ _ h => h) (Or.inl ⟨by rfl, ?_⟩) hHeld ?_
          rotate_left
          · intro w hSw; (try dsimp only at hSw); go_simp; (try with_reducible rfl)
          try simp only [Act.put, List.setIfInBounds_toArray, List.set_cons_zero, List.set_cons_succ]
          refine wpAnyH_take (i := 1) (v := ?_) (by simp only [List.getElem?_toArray, List.getElem?_cons_succ, List.getElem?_cons_zero]; rfl) (by kernel_rfl) (by kernel_rfl) (by kernel_rfl) (by exact fun _ _ _ h => h) (Or.inl ⟨by rfl, ?_⟩) hHeld ?_
          rotate_left
          · intro w hSw; (try dsimp only at hSw); go_simp; (try with_reducible rfl)
          try simp only [Act.put, List.setIfInBounds_toArray, List.set_cons_zero, List.set_cons_succ]
          refine wpAnyH_take (i := 2) (v := ?_) (by simp only [List.getElem?_toArray, List.getElem?_cons_succ, List.getElem?_cons_zero]; rfl) (by kernel_rfl) (by kernel_rfl) (by kernel_rfl) (by exact fun _ _ _ h => h) (Or.inl ⟨by rfl, ?_⟩) hHeld ?_
          rotate_left
          · intro w hSw; (try dsimp only at hSw); go_simp; (try with_reducible rfl)
          try simp only [Act.put, List.setIfInBounds_toArray, List.set_cons_zero, List.set_cons_succ]
          refine wpAnyH_take (i := 3) (v := ?_) (by simp only [List.getElem?_toArray, List.getElem?_cons_succ, List.getElem?_cons_zero]; rfl) (by kernel_rfl) (by kernel_rfl) (by kernel_rfl) (by exact fun _ _ _ h => h) (Or.inl ⟨by rfl, ?_⟩) hHeld ?_
          rotate_left
          · intro w hSw; (try dsimp only at hSw); go_simp; (try with_reducible rfl)
          try simp only [Act.put, List.setIfInBounds_toArray, List.set_cons_zero, List.set_cons_succ]
          refine wpAnyH_take (i := 4) (v := ?_) (by simp only [List.getElem?_toArray, List.getElem?_cons_succ, List.getElem?_cons_zero]; rfl) (by kernel_rfl) (by kernel_rfl) (by kernel_rfl) (by exact fun _ _ _ h => h) (Or.inl ⟨by rfl, ?_⟩) hHeld ?_
          rotate_left
          · intro w hSw; (try dsimp only at hSw); go_simp; (try with_reducible rfl)
          try simp only [Act.put, List.setIfInBounds_toArray, List.set_cons_zero, List.set_cons_succ]
          refine wpAnyH_take (i := 5) (v := ?_) (by simp only [List.getElem?_toArray, List.getElem?_cons_succ, List.getElem?_cons_zero]; rfl) (by kernel_rfl) (by kernel_rfl) (by kernel_rfl) (by exact fun _ _ _ h => h) (Or.inl ⟨by rfl, ?_⟩) hHeld ?_
          rotate_left
          · intro w hSw; (try dsimp only at hSw); go_simp; (try with_reducible rfl)
          try simp only [Act.put, List.setIfInBounds_toArray, List.set_cons_zero, List.set_cons_succ]
          refine wpAnyH_take (i := 6) (v := ?_) (by simp only [List.getElem?_toArray, List.getElem?_cons_succ, List.getElem?_cons_zero]; rfl) (by kernel_rfl) (by kernel_rfl) (by kernel_rfl) (by exact fun _ _ _ h => h) (Or.inl ⟨by rfl, ?_⟩) hHeld ?_
          rotate_left
          · intro w hSw; (try dsimp only at hSw); go_simp; (try with_reducible rfl)
          try simp only [Act.put, List.setIfInBounds_toArray, List.set_cons_zero, List.set_cons_succ]
          refine wpAnyH_take (i := 7) (v := ?_) (by simp only [List.getElem?_toArray, List.getElem?_cons_succ, List.getElem?_cons_zero]; rfl) (by kernel_rfl) (by kernel_rfl) (by kernel_rfl) (by exact fun _ _ _ h => h) (Or.inl ⟨by rfl, ?_⟩) hHeld ?_
          rotate_left
          · intro w hSw; (try dsimp only at hSw); go_simp; (try with_reducible rfl)
          try simp only [Act.put, List.setIfInBounds_toArray, List.set_cons_zero, List.set_cons_succ]
          refine wpAnyH_take (i := 8) (v := ?_) (by simp only [List.getElem?_toArray, List.getElem?_cons_succ, List.getElem?_cons_zero]; rfl) (by kernel_rfl) (by kernel_rfl) (by kernel_rfl) (by exact fun _ _ _ h => h) (Or.inl ⟨by rfl, ?_⟩) hHeld ?_
          rotate_left
          · intro w hSw; (try dsimp only at hSw); go_simp; (try with_reducible rfl)
          try simp only [Act.put, List.setIfInBounds_toArray, List.set_cons_zero, List.set_cons_succ]
          refine wpAnyH_take (i := 9) (v := ?_) (by simp only [List.getElem?_toArray, List.getElem?_cons_succ, List.getElem?_cons_zero]; rfl) (by kernel_rfl) (by kernel_rfl) (by kernel_rfl) (by exact fun _ _ _ h => h) (Or.inl ⟨by rfl, ?_⟩) hHeld ?_
          rotate_left
          · intro w hSw; (try dsimp only at hSw); go_simp; (try with_reducible rfl)
          try simp only [Act.put, List.setIfInBounds_toArray, List.set_cons_zero, List.set_cons_succ]
          refine wpAnyH_ready (rs := [10]) (by kernel_rfl) (by simp) ?_
          refine AllReadyH.cons (by simp only [List.getElem?_toArray, List.getElem?_cons_succ, List.getElem?_cons_zero]; rfl) (fun kC hkC => ?_) AllReadyH.nil
          go_simp
          refine (like_keep W _ a c v u M' hTd).mono ?_; rintro e w8 ⟨rfl, hT8, hk8⟩; have hX8 := (HX'.out.no ((Keeps.refl NoS _).drew)).no hk8
          (try go_wp2_with fail)
          refine hkC.out _ _ (And.intro (hX8.r.x.at ht HFT'.out) (hX8.r.y.at ht HFT'.out)) (fun hHeld => ?_)
          clear hkC kC
          try simp only [Act.put, List.setIfInBounds_toArray, List.set_cons_zero, List.set_cons_succ]
          refine wpAnyH_take (i := 11) (v := ?_) (by simp only [List.getElem?_toArray, List.getElem?_cons_succ, List.getElem?_cons_zero]; rfl) (by kernel_rfl) (by kernel_rfl) (by kernel_rfl) (by exact fun _ _ _ h => h) (Or.inl ⟨by rfl, ?_⟩) hHeld ?_
          rotate_left
          · intro w hSw; (try dsimp only at hSw); go_simp; (try with_reducible rfl)
          try simp only [Act.put, List.setIfInBounds_toArray, List.set_cons_zero, List.set_cons_succ]
          refine wpAnyH_take (i := 12) (v := ?_) (by simp only [List.getElem?_toArray, List.getElem?_cons_succ, List.getElem?_cons_zero]; rfl) (by kernel_rfl) (by kernel_rfl) (by kernel_rfl) (by exact fun _ _ _ h => h) (Or.inl ⟨by rfl, ?_⟩) hHeld ?_
          rotate_left
          · intro w hSw; (try dsimp only at hSw); go_simp; (try with_reducible rfl)
          try simp only [Act.put, List.setIfInBounds_toArray, List.set_cons_zero, List.set_cons_succ]
          refine wpAnyH_done (by kernel_rfl) ?_ _
          go_wp2_with fail
          go_roundw
          case rel => exact ⟨n + 1, M', f', _, by omega, by go_num, hX8, HI'.out⟩
          case measure => simp [intOf]; omega
        · obtain ⟨u0, u1, u2, u3, u4⟩ := HX'.out.r.x.at ht HFT'.out
          obtain ⟨v0, v1, v2, v3, v4⟩ := HX'.out.r.y.at ht HFT'.out
          have hTd := HX'.out.r.t.keep ((Keeps.refl NoS _).drew)
          go_wp2_with fail
          refine wp_region_held_drew (S := (fun w' => (w'.cell? ⟨G, t * 5, none⟩ = some (.int .i64 t3) ∧ w'.cell? ⟨G, t * 5 + 1, none⟩ = some (.int .i64 l3) ∧ w'.cell? ⟨G, t * 5 + 2, none⟩ = some (.int .i64 s') ∧ w'.cell? ⟨G, t * 5 + 3, none⟩ = some (.bool true) ∧ w'.cell? ⟨G, t * 5 + 4, none⟩ = some (.int .i64 x')) ∧ (w'.cell? ⟨(G + 1), t * 5, none⟩ = some (.int .i64 t3) ∧ w'.cell? ⟨(G + 1), t * 5 + 1, none⟩ = some (.int .i64 l3) ∧ w'.cell? ⟨(G + 1), t * 5 + 2, none⟩ = some (.int .i64 s') ∧ w'.cell? ⟨(G + 1), t * 5 + 3, none⟩ = some (.bool true) ∧ w'.cell? ⟨(G + 1), t * 5 + 4, none⟩ = some (.int .i64 x')))) (by kernel_rfl) (⟨⟨u0, u1, u2, u3, u4⟩, ⟨v0, v1, v2, v3, v4⟩⟩) (fun hHeld => ?_)
          refine wpAnyH_take (i := 0) (v := ?_) (by simp only [List.getElem?_toArray, List.getElem?_cons_succ, List.getElem?_cons_zero]; rfl) (by kernel_rfl) (by kernel_rfl) (by kernel_rfl) (by exact fun _ _ _ h => h) (Or.inl ⟨by rfl, ?_⟩) hHeld ?_
          rotate_left
          · intro w hSw; (try dsimp only at hSw); go_simp; (try with_reducible rfl)
          try simp only [Act.put, List.setIfInBounds_toArray, List.set_cons_zero, List.set_cons_succ]
          refine wpAnyH_take (i := 1) (v := ?_) (by simp only [List.getElem?_toArray, List.getElem?_cons_succ, List.getElem?_cons_zero]; rfl) (by kernel_rfl) (by kernel_rfl) (by kernel_rfl) (by exact fun _ _ _ h => h) (Or.inl ⟨by rfl, ?_⟩) hHeld ?_
          rotate_left
          · intro w hSw; (try dsimp only at hSw); go_simp; (try with_reducible rfl)
          try simp only [Act.put, List.setIfInBounds_toArray, List.set_cons_zero, List.set_cons_succ]
          refine wpAnyH_take (i := 2) (v := ?_) (by simp only [List.getElem?_toArray, List.getElem?_cons_succ, List.getElem?_cons_zero]; rfl) (by kernel_rfl) (by kernel_rfl) (by kernel_rfl) (by exact fun _ _ _ h => h) (Or.inl ⟨by rfl, ?_⟩) hHeld ?_
          rotate_left
          · intro w hSw; (try dsimp only at hSw); go_simp; (try with_reducible rfl)
          try simp only [Act.put, List.setIfInBounds_toArray, List.set_cons_zero, List.set_cons_succ]
          refine wpAnyH_take (i := 3) (v := ?_) (by simp only [List.getElem?_toArray, List.getElem?_cons_succ, List.getElem?_cons_zero]; rfl) (by kernel_rfl) (by kernel_rfl) (by kernel_rfl) (by exact fun _ _ _ h => h) (Or.inl ⟨by rfl, ?_⟩) hHeld ?_
          rotate_left
          · intro w hSw; (try dsimp only at hSw); go_simp; (try with_reducible rfl)
          try simp only [Act.put, List.setIfInBounds_toArray, List.set_cons_zero, List.set_cons_succ]
          refine wpAnyH_take (i := 4) (v := ?_) (by simp only [List.getElem?_toArray, List.getElem?_cons_succ, List.getElem?_cons_zero]; rfl) (by kernel_rfl) (by kernel_rfl) (by kernel_rfl) (by exact fun _ _ _ h => h) (Or.inl ⟨by rfl, ?_⟩) hHeld ?_
          rotate_left
          · intro w hSw; (try dsimp only at hSw); go_simp; (try with_reducible rfl)
          try simp only [Act.put, List.setIfInBounds_toArray, List.set_cons_zero, List.set_cons_succ]
          refine wpAnyH_take (i := 5) (v := ?_) (by simp only [List.getElem?_toArray, List.getElem?_cons_succ, List.getElem?_cons_zero]; rfl) (by kernel_rfl) (by kernel_rfl) (by kernel_rfl) (by exact fun _ _ _ h => h) (Or.inl ⟨by rfl, ?_⟩) hHeld ?_
          rotate_left
          · intro w hSw; (try dsimp only at hSw); go_simp; (try with_reducible rfl)
          try simp only [Act.put, List.setIfInBounds_toArray, List.set_cons_zero, List.set_cons_succ]
          refine wpAnyH_take (i := 6) (v := ?_) (by simp only [List.getElem?_toArray, List.getElem?_cons_succ, List.getElem?_cons_zero]; rfl) (by kernel_rfl) (by kernel_rfl) (by kernel_rfl) (by exact fun _ _ _ h => h) (Or.inl ⟨by rfl, ?_⟩) hHeld ?_
          rotate_left
          · intro w hSw; (try dsimp only at hSw); go_simp; (try with_reducible rfl)
          try simp only [Act.put, List.setIfInBounds_toArray, List.set_cons_zero, List.set_cons_succ]
          refine wpAnyH_take (i := 7) (v := ?_) (by simp only [List.getElem?_toArray, List.getElem?_cons_succ, List.getElem?_cons_zero]; rfl) (by kernel_rfl) (by kernel_rfl) (by kernel_rfl) (by exact fun _ _ _ h => h) (Or.inl ⟨by rfl, ?_⟩) hHeld ?_
          rotate_left
          · intro w hSw; (try dsimp only at hSw); go_simp; (try with_reducible rfl)
          try simp only [Act.put, List.setIfInBounds_toArray, List.set_cons_zero, List.set_cons_succ]
          refine wpAnyH_take (i := 8) (v := ?_) (by simp only [List.getElem?_toArray, List.getElem?_cons_succ, List.getElem?_cons_zero]; rfl) (by kernel_rfl) (by kernel_rfl) (by kernel_rfl) (by exact fun _ _ _ h => h) (Or.inl ⟨by rfl, ?_⟩) hHeld ?_
          rotate_left
          · intro w hSw; (try dsimp only at hSw); go_simp; (try with_reducible rfl)
          try simp only [Act.put, List.setIfInBounds_toArray, List.set_cons_zero, List.set_cons_succ]
          refine wpAnyH_take (i := 9) (v := ?_) (by simp only [List.getElem?_toArray, List.getElem?_cons_succ, List.getElem?_cons_zero]; rfl) (by kernel_rfl) (by kernel_rfl) (by kernel_rfl) (by exact fun _ _ _ h => h) (Or.inl ⟨by rfl, ?_⟩) hHeld ?_
          rotate_left
          · intro w hSw; (try dsimp only at hSw); go_simp; (try with_reducible rfl)
          try simp only [Act.put, List.setIfInBounds_toArray, List.set_cons_zero, List.set_cons_succ]
          refine wpAnyH_ready (rs := [10]) (by kernel_rfl) (by simp) ?_
          refine AllReadyH.cons (by simp only [List.getElem?_toArray, List.getElem?_cons_succ, List.getElem?_cons_zero]; rfl) (fun kC hkC => ?_) AllReadyH.nil
          go_simp
          refine (like_keep W _ a c v u M' hTd).mono ?_; rintro e w8 ⟨rfl, hT8, hk8⟩; have hX8 := (HX'.out.no ((Keeps.refl NoS _).drew)).no hk8
          (try go_wp2_with fail)
          refine hkC.out _ _ (And.intro (hX8.r.x.at ht HFT'.out) (hX8.r.y.at ht HFT'.out)) (fun hHeld => ?_)
          clear hkC kC
          try simp only [Act.put, List.setIfInBounds_toArray, List.set_cons_zero, List.set_cons_succ]
          refine wpAnyH_take (i := 11) (v := ?_) (by simp only [List.getElem?_toArray, List.getElem?_cons_succ, List.getElem?_cons_zero]; rfl) (by kernel_rfl) (by kernel_rfl) (by kernel_rfl) (by exact fun _ _ _ h => h) (Or.inl ⟨by rfl, ?_⟩) hHeld ?_
          rotate_left
          · intro w hSw; (try dsimp only at hSw); go_simp; (try with_reducible rfl)
          try simp only [Act.put, List.setIfInBounds_toArray, List.set_cons_zero, List.set_cons_succ]
          refine wpAnyH_take (i := 12) (v := ?_) (by simp only [List.getElem?_toArray, List.getElem?_cons_succ, List.getElem?_cons_zero]; rfl) (by kernel_rfl) (by kernel_rfl) (by kernel_rfl) (by exact fun _ _ _ h => h) (Or.inl ⟨by rfl, ?_⟩) hHeld ?_
          rotate_left
          · intro w hSw; (try dsimp only at hSw); go_simp; (try with_reducible rfl)
          try simp only [Act.put, List.setIfInBounds_toArray, List.set_cons_zero, List.set_cons_succ]
          refine wpAnyH_done (by kernel_rfl) ?_ _
          go_wp2_with fail
          go_roundw
          case rel => exact ⟨n + 1, M', f', _, by omega, by go_num, hX8, HI'.out⟩
          case measure => simp [intOf]; omega
      · have e9' : (s == 9) = false := by simpa using hne
        have e0' : (s == 0) = false := by simpa using hn0
        clear hne hn0
        have HX2 := HX
        go_upto_region 20 with fail
        clear cn hz hq hq4 HCN y0 y1 y2 y3 y4 o1 o2 hol HX
        have o3 := HX2.out.b.cell ht
        rw [HOB.out] at o3
        obtain ⟨M', h', hd⟩ : ∃ M' h', wDropI M ⟨th, lk, s, rd, x⟩ = (M', h') := ⟨_, _, rfl⟩
        obtain ⟨t3, l3, s', r3, x'⟩ := h'
        have hln : M'.L.length = 48 := by have h := wDropI_len M ⟨th, lk, s, rd, x⟩; rw [hd] at h; exact h.trans HM.out
        have HD := Lib.hid hd; have HI' := Lib.hid hln
        clear hd hln
        obtain ⟨m0, m1, m2, m3, m4⟩ := HBm.out _ HX2.out.r.t.s.kp
        obtain ⟨n0, n1, n2, n3, n4⟩ := HFm.out _ HX2.out.r.t.s.kp
        obtain ⟨u0, u1, u2, u3, u4⟩ := HX2.out.r.x.at ht HFT.out
        obtain ⟨v0, v1, v2, v3, v4⟩ := HX2.out.r.y.at ht HFT.out
        have hxl := HX2.out.r.x.lt
        have hyl := HX2.out.r.y.lt
        go_upto_region 21 with fail
        have hXd := HX2.out.no ((Keeps.refl NoS _).drew)
        refine wp_region_kept_drew 15 (fun w' => (w'.cell? ⟨G, t * 5, none⟩ = some (.int .i64 th) ∧ w'.cell? ⟨G, t * 5 + 1, none⟩ = some (.int .i64 lk) ∧ w'.cell? ⟨G, t * 5 + 2, none⟩ = some (.int .i64 s) ∧ w'.cell? ⟨G, t * 5 + 3, none⟩ = some (.bool rd) ∧ w'.cell? ⟨G, t * 5 + 4, none⟩ = some (.int .i64 x)) ∧ (w'.cell? ⟨(G + 1), t * 5, none⟩ = some (.int .i64 th) ∧ w'.cell? ⟨(G + 1), t * 5 + 1, none⟩ = some (.int .i64 lk) ∧ w'.cell? ⟨(G + 1), t * 5 + 2, none⟩ = some (.int .i64 s) ∧ w'.cell? ⟨(G + 1), t * 5 + 3, none⟩ = some (.bool rd) ∧ w'.cell? ⟨(G + 1), t * 5 + 4, none⟩ = some (.int .i64 x)) ∧ (w'.cell? ⟨B, 0, none⟩ = some (.int .i64 2) ∧ w'.cell? ⟨B, 1, none⟩ = some (.int .i64 2) ∧ w'.cell? ⟨B, 2, none⟩ = some (.int .i64 4) ∧ w'.cell? ⟨B, 3, none⟩ = some (.int .i64 0) ∧ w'.cell? ⟨B, 4, none⟩ = some (.int .i64 2)) ∧ (w'.cell? ⟨F, 0, none⟩ = some (.int .i64 2) ∧ w'.cell? ⟨F, 1, none⟩ = some (.int .i64 2) ∧ w'.cell? ⟨F, 2, none⟩ = some (.int .i64 4) ∧ w'.cell? ⟨F, 3, none⟩ = some (.int .i64 0) ∧ w'.cell? ⟨F, 4, none⟩ = some (.int .i64 2))) 17 (fun w' => (w'.cell? ⟨(G + 1), t * 5, none⟩ = some (.int .i64 th) ∧ w'.cell? ⟨(G + 1), t * 5 + 1, none⟩ = some (.int .i64 lk) ∧ w'.cell? ⟨(G + 1), t * 5 + 2, none⟩ = some (.int .i64 s) ∧ w'.cell? ⟨(G + 1), t * 5 + 3, none⟩ = some (.bool rd) ∧ w'.cell? ⟨(G + 1), t * 5 + 4, none⟩ = some (.int .i64 x)) ∧ (w'.cell? ⟨B, 0, none⟩ = some (.int .i64 2) ∧ w'.cell? ⟨B, 1, none⟩ = some (.int .i64 2) ∧ w'.cell? ⟨B, 2, none⟩ = some (.int .i64 4) ∧ w'.cell? ⟨B, 3, none⟩ = some (.int .i64 0) ∧ w'.cell? ⟨B, 4, none⟩ = some (.int .i64 2)) ∧ (w'.cell? ⟨F, 0, none⟩ = some (.int .i64 2) ∧ w'.cell? ⟨F, 1, none⟩ = some (.int .i64 2) ∧ w'.cell? ⟨F, 2, none⟩ = some (.int .i64 4) ∧ w'.cell? ⟨F, 3, none⟩ = some (.int .i64 0) ∧ w'.cell? ⟨F, 4, none⟩ = some (.int .i64 2))) (by kernel_rfl) (⟨⟨u0, u1, u2, u3, u4⟩, ⟨v0, v1, v2, v3, v4⟩, ⟨m0, m1, m2, m3, m4⟩, ⟨n0, n1, n2, n3, n4⟩⟩) (⟨⟨v0, v1, v2, v3, v4⟩, ⟨m0, m1, m2, m3, m4⟩, ⟨n0, n1, n2, n3, n4⟩⟩) (fun hK => ?_)
        refine wpAnyK_take1 (i := 0) (v := ?_) (by simp only [List.getElem?_toArray, List.getElem?_cons_succ, List.getElem?_cons_zero]; rfl) (by kernel_rfl) (by kernel_rfl) (by kernel_rfl) (by kernel_rfl) (by kernel_rfl) (by kernel_rfl) (by exact fun _ _ _ h => h) (Or.inl ⟨by rfl, ?_⟩) (hK _) ?_
        rotate_left
        · intro w hSw; (try dsimp only at hSw); go_simp; (try with_reducible rfl)
        try simp only [Act.put, List.setIfInBounds_toArray, List.set_cons_zero, List.set_cons_succ]
        refine wpAnyK_take2 (i := 1) (v := ?_) (by simp only [List.getElem?_toArray, List.getElem?_cons_succ, List.getElem?_cons_zero]; rfl) (by kernel_rfl) (by kernel_rfl) (by kernel_rfl) (by kernel_rfl) (by kernel_rfl) (by kernel_rfl) (by exact fun _ _ _ h => h) (Or.inl ⟨by rfl, ?_⟩) (hK _) ?_
        rotate_left
        · intro w hSw; (try dsimp only at hSw); go_simp; (try with_reducible rfl)
        try simp only [Act.put, List.setIfInBounds_toArray, List.set_cons_zero, List.set_cons_succ]
        refine wpAnyK_take1 (i := 2) (v := ?_) (by simp only [List.getElem?_toArray, List.getElem?_cons_succ, List.getElem?_cons_zero]; rfl) (by kernel_rfl) (by kernel_rfl) (by kernel_rfl) (by kernel_rfl) (by kernel_rfl) (by kernel_rfl) (by exact fun _ _ _ h => h) (Or.inl ⟨by rfl, ?_⟩) (hK _) ?_
        rotate_left
        · intro w hSw; (try dsimp only at hSw); go_simp; (try with_reducible rfl)
        try simp only [Act.put, List.setIfInBounds_toArray, List.set_cons_zero, List.set_cons_succ]
        refine wpAnyK_take1 (i := 3) (v := ?_) (by simp only [List.getElem?_toArray, List.getElem?_cons_succ, List.getElem?_cons_zero]; rfl) (by kernel_rfl) (by kernel_rfl) (by kernel_rfl) (by kernel_rfl) (by kernel_rfl) (by kernel_rfl) (by exact fun _ _ _ h => h) (Or.inl ⟨by rfl, ?_⟩) (hK _) ?_
        rotate_left
        · intro w hSw; (try dsimp only at hSw); go_simp; (try with_reducible rfl)
        try simp only [Act.put, List.setIfInBounds_toArray, List.set_cons_zero, List.set_cons_succ]
        refine wpAnyK_take1 (i := 4) (v := ?_) (by simp only [List.getElem?_toArray, List.getElem?_cons_succ, List.getElem?_cons_zero]; rfl) (by kernel_rfl) (by kernel_rfl) (by kernel_rfl) (by kernel_rfl) (by kernel_rfl) (by kernel_rfl) (by exact fun _ _ _ h => h) (Or.inl ⟨by rfl, ?_⟩) (hK _) ?_
        rotate_left
        · intro w hSw; (try dsimp only at hSw); go_simp; (try with_reducible rfl)
        try simp only [Act.put, List.setIfInBounds_toArray, List.set_cons_zero, List.set_cons_succ]
        refine wpAnyK_take1 (i := 5) (v := ?_) (by simp only [List.getElem?_toArray, List.getElem?_cons_succ, List.getElem?_cons_zero]; rfl) (by kernel_rfl) (by kernel_rfl) (by kernel_rfl) (by kernel_rfl) (by kernel_rfl) (by kernel_rfl) (by exact fun _ _ _ h => h) (Or.inl ⟨by rfl, ?_⟩) (hK _) ?_
        rotate_left
        · intro w hSw; (try dsimp only at hSw); go_simp; (try with_reducible rfl)
        try simp only [Act.put, List.setIfInBounds_toArray, List.set_cons_zero, List.set_cons_succ]
        refine wpAnyK_take1 (i := 6) (v := ?_) (by simp only [List.getElem?_toArray, List.getElem?_cons_succ, List.getElem?_cons_zero]; rfl) (by kernel_rfl) (by kernel_rfl) (by kernel_rfl) (by kernel_rfl) (by kernel_rfl) (by kernel_rfl) (by exact fun _ _ _ h => h) (Or.inl ⟨by rfl, ?_⟩) (hK _) ?_
        rotate_left
        · intro w hSw; (try dsimp only at hSw); go_simp; (try with_reducible rfl)
        try simp only [Act.put, List.setIfInBounds_toArray, List.set_cons_zero, List.set_cons_succ]
        refine wpAnyK_take2 (i := 8) (v := ?_) (by simp only [List.getElem?_toArray, List.getElem?_cons_succ, List.getElem?_cons_zero]; rfl) (by kernel_rfl) (by kernel_rfl) (by kernel_rfl) (by kernel_rfl) (by kernel_rfl) (by kernel_rfl) (by exact fun _ _ _ h => h) (Or.inl ⟨by rfl, ?_⟩) (hK _) ?_
        rotate_left
        · intro w hSw; (try dsimp only at hSw); go_simp; (try with_reducible rfl)
        try simp only [Act.put, List.setIfInBounds_toArray, List.set_cons_zero, List.set_cons_succ]
        refine wpAnyK_take2 (i := 9) (v := ?_) (by simp only [List.getElem?_toArray, List.getElem?_cons_succ, List.getElem?_cons_zero]; rfl) (by kernel_rfl) (by kernel_rfl) (by kernel_rfl) (by kernel_rfl) (by kernel_rfl) (by kernel_rfl) (by exact fun _ _ _ h => h) (Or.inl ⟨by rfl, ?_⟩) (hK _) ?_
        rotate_left
        · intro w hSw; (try dsimp only at hSw); go_simp; (try with_reducible rfl)
        try simp only [Act.put, List.setIfInBounds_toArray, List.set_cons_zero, List.set_cons_succ]
        refine wpAnyK_take2 (i := 10) (v := ?_) (by simp only [List.getElem?_toArray, List.getElem?_cons_succ, List.getElem?_cons_zero]; rfl) (by kernel_rfl) (by kernel_rfl) (by kernel_rfl) (by kernel_rfl) (by kernel_rfl) (by kernel_rfl) (by exact fun _ _ _ h => h) (Or.inl ⟨by rfl, ?_⟩) (hK _) ?_
        rotate_left
        · intro w hSw; (try dsimp only at hSw); go_simp; (try with_reducible rfl)
        try simp only [Act.put, List.setIfInBounds_toArray, List.set_cons_zero, List.set_cons_succ]
        refine wpAnyK_take2 (i := 11) (v := ?_) (by simp only [List.getElem?_toArray, List.getElem?_cons_succ, List.getElem?_cons_zero]; rfl) (by kernel_rfl) (by kernel_rfl) (by kernel_rfl) (by kernel_rfl) (by kernel_rfl) (by kernel_rfl) (by exact fun _ _ _ h => h) (Or.inl ⟨by rfl, ?_⟩) (hK _) ?_
        rotate_left
        · intro w hSw; (try dsimp only at hSw); go_simp; (try with_reducible rfl)
        try simp only [Act.put, List.setIfInBounds_toArray, List.set_cons_zero, List.set_cons_succ]
        refine wpAnyK_take2 (i := 12) (v := ?_) (by simp only [List.getElem?_toArray, List.getElem?_cons_succ, List.getElem?_cons_zero]; rfl) (by kernel_rfl) (by kernel_rfl) (by kernel_rfl) (by kernel_rfl) (by kernel_rfl) (by kernel_rfl) (by exact fun _ _ _ h => h) (Or.inl ⟨by rfl, ?_⟩) (hK _) ?_
        rotate_left
        · intro w hSw; (try dsimp only at hSw); go_simp; (try with_reducible rfl)
        try simp only [Act.put, List.setIfInBounds_toArray, List.set_cons_zero, List.set_cons_succ]
        refine wpAnyK_one (i := 7) (by kernel_rfl) (by simp only [List.getElem?_toArray, List.getElem?_cons_succ, List.getElem?_cons_zero]; rfl) (fun kC hkC => ?_)
        go_simp
        refine (rwdrop8_any th lk s rd x a v M _ hXd.r.t.s.m HM.out).mono ?_; rw [HD.out]; unfold handV; dsimp only; rintro e w5 ⟨rfl, hm, hk⟩; have hT5 := hXd.r.t.turnS hm hk; have hx5 := hXd.r.x.keep hk (HA.out.na (Nat.le_refl _)); have hy5 := hXd.r.y.keep hk (HA.out.na (by omega)); have hb5 := hXd.b.keep hk (HA.out.na (by omega)); have m5 := HBm.out _ hT5.s.kp; have n5 := HFm.out _ hT5.s.kp; have hX5 := hx5.at ht HFT.out; have hY5 := hy5.at ht HFT.out; clear hm hk
        (try go_wp2_with fail)
        refine hkC.out _ _ (⟨hX5, hY5, m5, n5⟩) (⟨hY5, m5, n5⟩) (fun hK => ?_)
        clear hkC kC
        try simp only [Act.put, List.setIfInBounds_toArray, List.set_cons_zero, List.set_cons_succ]
        refine wpAnyK_take1 (i := 14) (v := ?_) (by simp only [List.getElem?_toArray, List.getElem?_cons_succ, List.getElem?_cons_zero]; rfl) (by kernel_rfl) (by kernel_rfl) (by kernel_rfl) (by kernel_rfl) (by kernel_rfl) (by kernel_rfl) (by exact fun _ _ _ h => h) (Or.inl ⟨by rfl, ?_⟩) (hK _) ?_
        rotate_left
        · intro w hSw; (try dsimp only at hSw); go_simp; (try with_reducible rfl)
        try simp only [Act.put, List.setIfInBounds_toArray, List.set_cons_zero, List.set_cons_succ]
        refine wpAnyK_one (i := 13) (by kernel_rfl) (by simp only [List.getElem?_toArray, List.getElem?_cons_succ, List.getElem?_cons_zero]; rfl) (fun kC hkC => ?_)
        go_simp
        refine (rrwdrop8_any th lk s rd x c u M _ hT5.r.m HM.out).mono ?_; rw [HD.out]; unfold handV; dsimp only; rintro e w7 ⟨rfl, hm, hk⟩; have hT7 := hT5.turnR hm hk; have hx7 := hx5.keep hk (HA.out.nc (Nat.le_refl _)); have hy7 := hy5.keep hk (HA.out.nc (by omega)); have hb7 := hb5.keep hk (HA.out.nc (by omega)); have m7 := HBm.out _ hT7.s.kp; have n7 := HFm.out _ hT7.s.kp; have hX7 := hx7.at ht HFT.out; have hY7 := hy7.at ht HFT.out; obtain ⟨F0, F1, F2, F3, F4⟩ := hx7.frees t; obtain ⟨G0, G1, G2, G3, G4⟩ := hy7.frees t; have hl7 := hy7.lt; have hput7 := RnS.put ⟨⟨hT7, hx7, hy7⟩, hb7⟩ HA.out t ht ⟨t3, l3, s', r3, x'⟩; have HP := Lib.hid hput7; have hyS := (hy7.outH (G' := G) (by omega) t ⟨t3, l3, s', r3, x'⟩).at ht HFT.out; have mS := HBm.out _ (hT7.s.kp.setH (g := G) hWB t ⟨t3, l3, s', r3, x'⟩); have nS := HFm.out _ (hT7.s.kp.setH (g := G) hWB t ⟨t3, l3, s', r3, x'⟩); unfold setH at hyS mS nS; dsimp only at hyS mS nS; clear hm hk hput7
        (try go_wp2_with fail)
        refine hkC.out _ _ (⟨hX7, hY7, m7, n7⟩) (⟨hY7, m7, n7⟩) (fun hK => ?_)
        clear hkC kC
        try simp only [Act.put, List.setIfInBounds_toArray, List.set_cons_zero, List.set_cons_succ]
        refine wpAnyK_mid (i := 15) (by kernel_rfl) (by simp only [List.getElem?_toArray, List.getElem?_cons_succ, List.getElem?_cons_zero]; rfl) (by kernel_rfl) (fun kC hkC => ?_)
        go_simp
        refine hkC.out _ _ (⟨hyS, mS, nS⟩) (fun hM => ?_)
        clear hkC kC
        try simp only [Act.put, List.setIfInBounds_toArray, List.set_cons_zero, List.set_cons_succ]
        refine wpAnyK_take2 (i := 16) (v := ?_) (by simp only [List.getElem?_toArray, List.getElem?_cons_succ, List.getElem?_cons_zero]; rfl) (by kernel_rfl) (by kernel_rfl) (by kernel_rfl) (by kernel_rfl) (by kernel_rfl) (by kernel_rfl) (by exact fun _ _ _ h => h) (Or.inl ⟨by rfl, ?_⟩) (ReqK.mid (by kernel_rfl) hM) ?_
        rotate_left
        · intro w hSw; (try dsimp only at hSw); go_simp; (try with_reducible rfl)
        try simp only [Act.put, List.setIfInBounds_toArray, List.set_cons_zero, List.set_cons_succ]
        refine wpAnyK_last (i := 17) (by kernel_rfl) (by simp only [List.getElem?_toArray, List.getElem?_cons_succ, List.getElem?_cons_zero]; rfl) (by kernel_rfl) (by kernel_rfl) (fun kC hkC => ?_)
        go_simp
        refine hkC.out _ _ ?_
        clear hkC kC
        try simp only [Act.put, List.setIfInBounds_toArray, List.set_cons_zero, List.set_cons_succ]
        refine wpAnyK_done (by kernel_rfl) ?_ _
        have hP := HP.out
        unfold setH at hP
        dsimp only at hP
        generalize (((((((((w7.setCell ⟨G, t * 5, none⟩ (.int .i64 t3)).setCell ⟨G, t * 5 + 1, none⟩ (.int .i64 l3)).setCell ⟨G, t * 5 + 2, none⟩ (.int .i64 s')).setCell ⟨G, t * 5 + 3, none⟩ (.bool r3)).setCell ⟨G, t * 5 + 4, none⟩ (.int .i64 x')).setCell ⟨(G + 1), t * 5, none⟩ (.int .i64 t3)).setCell ⟨(G + 1), t * 5 + 1, none⟩ (.int .i64 l3)).setCell ⟨(G + 1), t * 5 + 2, none⟩ (.int .i64 s')).setCell ⟨(G + 1), t * 5 + 3, none⟩ (.bool r3)).setCell ⟨(G + 1), t * 5 + 4, none⟩ (.int .i64 x') = wz at *
        have hft' := hput_at (f := f) (t := t) (h := ⟨t3, l3, s', r3, x'⟩)
        generalize hput f t ⟨t3, l3, s', r3, x'⟩ = f' at *
        have HX' := Lib.hid hP; have HFT' := Lib.hid hft'
        clear hP HP hft' hT5 hT7 hx5 hx7 hy5 hy7 hb5 hb7 m5 m7 n5 n7 hX5 hX7 hY5 hY7 F0 F1 F2 F3 F4 G0 G1 G2 G3 G4 hl7 hyS mS nS hXd hK u0 u1 u2 u3 u4 v0 v1 v2 v3 v4 m0 m1 m2 m3 m4 n0 n1 n2 n3 n4 HX2 hxl hyl
        cases r3
        · obtain ⟨u0, u1, u2, u3, u4⟩ := HX'.out.r.x.at ht HFT'.out
          obtain ⟨v0, v1, v2, v3, v4⟩ := HX'.out.r.y.at ht HFT'.out
          have hTd := HX'.out.r.t.keep ((Keeps.refl NoS _).drew)
          go_wp2_with fail
          refine wp_region_held_drew (S := (fun w' => (w'.cell? ⟨G, t * 5, none⟩ = some (.int .i64 t3) ∧ w'.cell? ⟨G, t * 5 + 1, none⟩ = some (.int .i64 l3) ∧ w'.cell? ⟨G, t * 5 + 2, none⟩ = some (.int .i64 s') ∧ w'.cell? ⟨G, t * 5 + 3, none⟩ = some (.bool false) ∧ w'.cell? ⟨G, t * 5 + 4, none⟩ = some (.int .i64 x')) ∧ (w'.cell? ⟨(G + 1), t * 5, none⟩ = some (.int .i64 t3) ∧ w'.cell? ⟨(G + 1), t * 5 + 1, none⟩ = some (.int .i64 l3) ∧ w'.cell? ⟨(G + 1), t * 5 + 2, none⟩ = some (.int .i64 s') ∧ w'.cell? ⟨(G + 1), t * 5 + 3, none⟩ = some (.bool false) ∧ w'.cell? ⟨(G + 1), t * 5 + 4, none⟩ = some (.int .i64 x')))) (by kernel_rfl) (⟨⟨u0, u1, u2, u3, u4⟩, ⟨v0, v1, v2, v3, v4⟩⟩) (fun hHeld => ?_)
          refine wpAnyH_take (i := 0) (v := ?_) (by simp only [List.getElem?_toArray, List.getElem?_cons_succ, List.getElem?_cons_zero]; rfl) (by kernel_rfl) (by kernel_rfl) (by kernel_rfl) (by exact fun _ _ _ h => h) (Or.inl ⟨by rfl, ?_⟩) hHeld ?_
          rotate_left
          · intro w hSw; (try dsimp only at hSw); go_simp; (try with_reducible rfl)
          try simp only [Act.put, List.setIfInBounds_toArray, List.set_cons_zero, List.set_cons_succ]
          refine wpAnyH_take (i := 1) (v := ?_) (by simp only [List.getElem?_toArray, List.getElem?_cons_succ, List.getElem?_cons_zero]; rfl) (by kernel_rfl) (by kernel_rfl) (by kernel_rfl) (by exact fun _ _ _ h => h) (Or.inl ⟨by rfl, ?_⟩) hHeld ?_
          rotate_left
          · intro w hSw; (try dsimp only at hSw); go_simp; (try with_reducible rfl)
          try simp only [Act.put, List.setIfInBounds_toArray, List.set_cons_zero, List.set_cons_succ]
          refine wpAnyH_take (i := 2) (v := ?_) (by simp only [List.getElem?_toArray, List.getElem?_cons_succ, List.getElem?_cons_zero]; rfl) (by kernel_rfl) (by kernel_rfl) (by kernel_rfl) (by exact fun _ _ _ h => h) (Or.inl ⟨by rfl, ?_⟩) hHeld ?_
          rotate_left
          · intro w hSw; (try dsimp only at hSw); go_simp; (try with_reducible rfl)
          try simp only [Act.put, List.setIfInBounds_toArray, List.set_cons_zero, List.set_cons_succ]
          refine wpAnyH_take (i := 3) (v := ?_) (by simp only [List.getElem?_toArray, List.getElem?_cons_succ, List.getElem?_cons_zero]; rfl) (by kernel_rfl) (by kernel_rfl) (by kernel_rfl) (by exact fun _ _ _ h => h) (Or.inl ⟨by rfl, ?_⟩) hHeld ?_
          rotate_left
          · intro w hSw; (try dsimp only at hSw); go_simp; (try with_reducible rfl)
          try simp only [Act.put, List.setIfInBounds_toArray, List.set_cons_zero, List.set_cons_succ]
          refine wpAnyH_take (i := 4) (v := ?_) (by simp only [List.getElem?_toArray, List.getElem?_cons_succ, List.getElem?_cons_zero]; rfl) (by kernel_rfl) (by kernel_rfl) (by kernel_rfl) (by exact fun _ _ _ h => h) (Or.inl ⟨by rfl, ?_⟩) hHeld ?_
          rotate_left
          · intro w hSw; (try dsimp only at hSw); go_simp; (try with_reducible rfl)
          try simp only [Act.put, List.setIfInBounds_toArray, List.set_cons_zero, List.set_cons_succ]
          refine wpAnyH_take (i := 5) (v := ?_) (by simp only [List.getElem?_toArray, List.getElem?_cons_succ, List.getElem?_cons_zero]; rfl) (by kernel_rfl) (by kernel_rfl) (by kernel_rfl) (by exact fun _ _ _ h => h) (Or.inl ⟨by rfl, ?_⟩) hHeld ?_
          rotate_left
          · intro w hSw; (try dsimp only at hSw); go_simp; (try with_reducible rfl)
          try simp only [Act.put, List.setIfInBounds_toArray, List.set_cons_zero, List.set_cons_succ]
          refine wpAnyH_take (i := 6) (v := ?_) (by simp only [List.getElem?_toArray, List.getElem?_cons_succ, List.getElem?_cons_zero]; rfl) (by kernel_rfl) (by kernel_rfl) (by kernel_rfl) (by exact fun _ _ _ h => h) (Or.inl ⟨by rfl, ?_⟩) hHeld ?_
          rotate_left
          · intro w hSw; (try dsimp only at hSw); go_simp; (try with_reducible rfl)
          try simp only [Act.put, List.setIfInBounds_toArray, List.set_cons_zero, List.set_cons_succ]
          refine wpAnyH_take (i := 7) (v := ?_) (by simp only [List.getElem?_toArray, List.getElem?_cons_succ, List.getElem?_cons_zero]; rfl) (by kernel_rfl) (by kernel_rfl) (by kernel_rfl) (by exact fun _ _ _ h => h) (Or.inl ⟨by rfl, ?_⟩) hHeld ?_
          rotate_left
          · intro w hSw; (try dsimp only at hSw); go_simp; (try with_reducible rfl)
          try simp only [Act.put, List.setIfInBounds_toArray, List.set_cons_zero, List.set_cons_succ]
          refine wpAnyH_take (i := 8) (v := ?_) (by simp only [List.getElem?_toArray, List.getElem?_cons_succ, List.getElem?_cons_zero]; rfl) (by kernel_rfl) (by kernel_rfl) (by kernel_rfl) (by exact fun _ _ _ h => h) (Or.inl ⟨by rfl, ?_⟩) hHeld ?_
          rotate_left
          · intro w hSw; (try dsimp only at hSw); go_simp; (try with_reducible rfl)
          try simp only [Act.put, List.setIfInBounds_toArray, List.set_cons_zero, List.set_cons_succ]
          refine wpAnyH_take (i := 9) (v := ?_) (by simp only [List.getElem?_toArray, List.getElem?_cons_succ, List.getElem?_cons_zero]; rfl) (by kernel_rfl) (by kernel_rfl) (by kernel_rfl) (by exact fun _ _ _ h => h) (Or.inl ⟨by rfl, ?_⟩) hHeld ?_
          rotate_left
          · intro w hSw; (try dsimp only at hSw); go_simp; (try with_reducible rfl)
          try simp only [Act.put, List.setIfInBounds_toArray, List.set_cons_zero, List.set_cons_succ]
          refine wpAnyH_ready (rs := [10]) (by kernel_rfl) (by simp) ?_
          refine AllReadyH.cons (by simp only [List.getElem?_toArray, List.getElem?_cons_succ, List.getElem?_cons_zero]; rfl) (fun kC hkC => ?_) AllReadyH.nil
          go_simp
          refine (like_keep W _ a c v u M' hTd).mono ?_; rintro e w8 ⟨rfl, hT8, hk8⟩; have hX8 := (HX'.out.no ((Keeps.refl NoS _).drew)).no hk8
          (try go_wp2_with fail)
          refine hkC.out _ _ (And.intro (hX8.r.x.at ht HFT'.out) (hX8.r.y.at ht HFT'.out)) (fun hHeld => ?_)
          clear hkC kC
          try simp only [Act.put, List.setIfInBounds_toArray, List.set_cons_zero, List.set_cons_succ]
          refine wpAnyH_take (i := 11) (v := ?_) (by simp only [List.getElem?_toArray, List.getElem?_cons_succ, List.getElem?_cons_zero]; rfl) (by kernel_rfl) (by kernel_rfl) (by kernel_rfl) (by exact fun _ _ _ h => h) (Or.inl ⟨by rfl, ?_⟩) hHeld ?_
          rotate_left
          · intro w hSw; (try dsimp only at hSw); go_simp; (try with_reducible rfl)
          try simp only [Act.put, List.setIfInBounds_toArray, List.set_cons_zero, List.set_cons_succ]
          refine wpAnyH_take (i := 12) (v := ?_) (by simp only [List.getElem?_toArray, List.getElem?_cons_succ, List.getElem?_cons_zero]; rfl) (by kernel_rfl) (by kernel_rfl) (by kernel_rfl) (by exact fun _ _ _ h => h) (Or.inl ⟨by rfl, ?_⟩) hHeld ?_
          rotate_left
          · intro w hSw; (try dsimp only at hSw); go_simp; (try with_reducible rfl)
          try simp only [Act.put, List.setIfInBounds_toArray, List.set_cons_zero, List.set_cons_succ]
          refine wpAnyH_done (by kernel_rfl) ?_ _
          go_wp2_with fail
          go_roundw
          case rel => exact ⟨n + 1, M', f', _, by omega, by go_num, hX8, HI'.out⟩
          case measure => simp [intOf]; omega
        · obtain ⟨u0, u1, u2, u3, u4⟩ := HX'.out.r.x.at ht HFT'.out
          obtain ⟨v0, v1, v2, v3, v4⟩ := HX'.out.r.y.at ht HFT'.out
          have hTd := HX'.out.r.t.keep ((Keeps.refl NoS _).drew)
          go_wp2_with fail
          refine wp_region_held_drew (S := (fun w' => (w'.cell? ⟨G, t * 5, none⟩ = some (.int .i64 t3) ∧ w'.cell? ⟨G, t * 5 + 1, none⟩ = some (.int .i64 l3) ∧ w'.cell? ⟨G, t * 5 + 2, none⟩ = some (.int .i64 s') ∧ w'.cell? ⟨G, t * 5 + 3, none⟩ = some (.bool true) ∧ w'.cell? ⟨G, t * 5 + 4, none⟩ = some (.int .i64 x')) ∧ (w'.cell? ⟨(G + 1), t * 5, none⟩ = some (.int .i64 t3) ∧ w'.cell? ⟨(G + 1), t * 5 + 1, none⟩ = some (.int .i64 l3) ∧ w'.cell? ⟨(G + 1), t * 5 + 2, none⟩ = some (.int .i64 s') ∧ w'.cell? ⟨(G + 1), t * 5 + 3, none⟩ = some (.bool true) ∧ w'.cell? ⟨(G + 1), t * 5 + 4, none⟩ = some (.int .i64 x')))) (by kernel_rfl) (⟨⟨u0, u1, u2, u3, u4⟩, ⟨v0, v1, v2, v3, v4⟩⟩) (fun hHeld => ?_)
          refine wpAnyH_take (i := 0) (v := ?_) (by simp only [List.getElem?_toArray, List.getElem?_cons_succ, List.getElem?_cons_zero]; rfl) (by kernel_rfl) (by kernel_rfl) (by kernel_rfl) (by exact fun _ _ _ h => h) (Or.inl ⟨by rfl, ?_⟩) hHeld ?_
          rotate_left
          · intro w hSw; (try dsimp only at hSw); go_simp; (try with_reducible rfl)
          try simp only [Act.put, List.setIfInBounds_toArray, List.set_cons_zero, List.set_cons_succ]
          refine wpAnyH_take (i := 1) (v := ?_) (by simp only [List.getElem?_toArray, List.getElem?_cons_succ, List.getElem?_cons_zero]; rfl) (by kernel_rfl) (by kernel_rfl) (by kernel_rfl) (by exact fun _ _ _ h => h) (Or.inl ⟨by rfl, ?_⟩) hHeld ?_
          rotate_left
          · intro w hSw; (try dsimp only at hSw); go_simp; (try with_reducible rfl)
          try simp only [Act.put, List.setIfInBounds_toArray, List.set_cons_zero, List.set_cons_succ]
          refine wpAnyH_take (i := 2) (v := ?_) (by simp only [List.getElem?_toArray, List.getElem?_cons_succ, List.getElem?_cons_zero]; rfl) (by kernel_rfl) (by kernel_rfl) (by kernel_rfl) (by exact fun _ _ _ h => h) (Or.inl ⟨by rfl, ?_⟩) hHeld ?_
          rotate_left
          · intro w hSw; (try dsimp only at hSw); go_simp; (try with_reducible rfl)
          try simp only [Act.put, List.setIfInBounds_toArray, List.set_cons_zero, List.set_cons_succ]
          refine wpAnyH_take (i := 3) (v := ?_) (by simp only [List.getElem?_toArray, List.getElem?_cons_succ, List.getElem?_cons_zero]; rfl) (by kernel_rfl) (by kernel_rfl) (by kernel_rfl) (by exact fun _ _ _ h => h) (Or.inl ⟨by rfl, ?_⟩) hHeld ?_
          rotate_left
          · intro w hSw; (try dsimp only at hSw); go_simp; (try with_reducible rfl)
          try simp only [Act.put, List.setIfInBounds_toArray, List.set_cons_zero, List.set_cons_succ]
          refine wpAnyH_take (i := 4) (v := ?_) (by simp only [List.getElem?_toArray, List.getElem?_cons_succ, List.getElem?_cons_zero]; rfl) (by kernel_rfl) (by kernel_rfl) (by kernel_rfl) (by exact fun _ _ _ h => h) (Or.inl ⟨by rfl, ?_⟩) hHeld ?_
          rotate_left
          · intro w hSw; (try dsimp only at hSw); go_simp; (try with_reducible rfl)
          try simp only [Act.put, List.setIfInBounds_toArray, List.set_cons_zero, List.set_cons_succ]
          refine wpAnyH_take (i := 5) (v := ?_) (by simp only [List.getElem?_toArray, List.getElem?_cons_succ, List.getElem?_cons_zero]; rfl) (by kernel_rfl) (by kernel_rfl) (by kernel_rfl) (by exact fun _ _ _ h => h) (Or.inl ⟨by rfl, ?_⟩) hHeld ?_
          rotate_left
          · intro w hSw; (try dsimp only at hSw); go_simp; (try with_reducible rfl)
          try simp only [Act.put, List.setIfInBounds_toArray, List.set_cons_zero, List.set_cons_succ]
          refine wpAnyH_take (i := 6) (v := ?_) (by simp only [List.getElem?_toArray, List.getElem?_cons_succ, List.getElem?_cons_zero]; rfl) (by kernel_rfl) (by kernel_rfl) (by kernel_rfl) (by exact fun _ _ _ h => h) (Or.inl ⟨by rfl, ?_⟩) hHeld ?_
          rotate_left
          · intro w hSw; (try dsimp only at hSw); go_simp; (try with_reducible rfl)
          try simp only [Act.put, List.setIfInBounds_toArray, List.set_cons_zero, List.set_cons_succ]
          refine wpAnyH_take (i := 7) (v := ?_) (by simp only [List.getElem?_toArray, List.getElem?_cons_succ, List.getElem?_cons_zero]; rfl) (by kernel_rfl) (by kernel_rfl) (by kernel_rfl) (by exact fun _ _ _ h => h) (Or.inl ⟨by rfl, ?_⟩) hHeld ?_
          rotate_left
          · intro w hSw; (try dsimp only at hSw); go_simp; (try with_reducible rfl)
          try simp only [Act.put, List.setIfInBounds_toArray, List.set_cons_zero, List.set_cons_succ]
          refine wpAnyH_take (i := 8) (v := ?_) (by simp only [List.getElem?_toArray, List.getElem?_cons_succ, List.getElem?_cons_zero]; rfl) (by kernel_rfl) (by kernel_rfl) (by kernel_rfl) (by exact fun _ _ _ h => h) (Or.inl ⟨by rfl, ?_⟩) hHeld ?_
          rotate_left
          · intro w hSw; (try dsimp only at hSw); go_simp; (try with_reducible rfl)
          try simp only [Act.put, List.setIfInBounds_toArray, List.set_cons_zero, List.set_cons_succ]
          refine wpAnyH_take (i := 9) (v := ?_) (by simp only [List.getElem?_toArray, List.getElem?_cons_succ, List.getElem?_cons_zero]; rfl) (by kernel_rfl) (by kernel_rfl) (by kernel_rfl) (by exact fun _ _ _ h => h) (Or.inl ⟨by rfl, ?_⟩) hHeld ?_
          rotate_left
          · intro w hSw; (try dsimp only at hSw); go_simp; (try with_reducible rfl)
          try simp only [Act.put, List.setIfInBounds_toArray, List.set_cons_zero, List.set_cons_succ]
          refine wpAnyH_ready (rs := [10]) (by kernel_rfl) (by simp) ?_
          refine AllReadyH.cons (by simp only [List.getElem?_toArray, List.getElem?_cons_succ, List.getElem?_cons_zero]; rfl) (fun kC hkC => ?_) AllReadyH.nil
          go_simp
          refine (like_keep W _ a c v u M' hTd).mono ?_; rintro e w8 ⟨rfl, hT8, hk8⟩; have hX8 := (HX'.out.no ((Keeps.refl NoS _).drew)).no hk8
          (try go_wp2_with fail)
          refine hkC.out _ _ (And.intro (hX8.r.x.at ht HFT'.out) (hX8.r.y.at ht HFT'.out)) (fun hHeld => ?_)
          clear hkC kC
          try simp only [Act.put, List.setIfInBounds_toArray, List.set_cons_zero, List.set_cons_succ]
          refine wpAnyH_take (i := 11) (v := ?_) (by simp only [List.getElem?_toArray, List.getElem?_cons_succ, List.getElem?_cons_zero]; rfl) (by kernel_rfl) (by kernel_rfl) (by kernel_rfl) (by exact fun _ _ _ h => h) (Or.inl ⟨by rfl, ?_⟩) hHeld ?_
          rotate_left
          · intro w hSw; (try dsimp only at hSw); go_simp; (try with_reducible rfl)
          try simp only [Act.put, List.setIfInBounds_toArray, List.set_cons_zero, List.set_cons_succ]
          refine wpAnyH_take (i := 12) (v := ?_) (by simp only [List.getElem?_toArray, List.getElem?_cons_succ, List.getElem?_cons_zero]; rfl) (by kernel_rfl) (by kernel_rfl) (by kernel_rfl) (by exact fun _ _ _ h => h) (Or.inl ⟨by rfl, ?_⟩) hHeld ?_
          rotate_left
          · intro w hSw; (try dsimp only at hSw); go_simp; (try with_reducible rfl)
          try simp only [Act.put, List.setIfInBounds_toArray, List.set_cons_zero, List.set_cons_succ]
          refine wpAnyH_done (by kernel_rfl) ?_ _
          go_wp2_with fail
          go_roundw
          case rel => exact ⟨n + 1, M', f', _, by omega, by go_num, hX8, HI'.out⟩
          case measure => simp [intOf]; omega
      · have e9' : (s == 9) = false := by simpa using hne
        have e0' : (s == 0) = false := by simpa using hn0
        clear hne hn0
        have HX2 := HX
        go_upto_region 20 with fail
        clear cn hz hq hq4 HCN y0 y1 y2 y3 y4 o1 o2 hol HX
        have o3 := HX2.out.b.cell ht
        rw [HOB.out] at o3
        obtain ⟨M', h', hd⟩ : ∃ M' h', wTakeI M ⟨th, lk, s, rd, x⟩ = (M', h') := ⟨_, _, rfl⟩
        obtain ⟨t3, l3, s', r3, x'⟩ := h'
        have hln : M'.L.length = 48 := by have h := wTakeI_len M ⟨th, lk, s, rd, x⟩; rw [hd] at h; exact h.trans HM.out
        have HD := Lib.hid hd; have HI' := Lib.hid hln
        clear hd hln
        obtain ⟨m0, m1, m2, m3, m4⟩ := HBm.out _ HX2.out.r.t.s.kp
        obtain ⟨n0, n1, n2, n3, n4⟩ := HFm.out _ HX2.out.r.t.s.kp
        obtain ⟨u0, u1, u2, u3, u4⟩ := HX2.out.r.x.at ht HFT.out
        obtain ⟨v0, v1, v2, v3, v4⟩ := HX2.out.r.y.at ht HFT.out
        have hxl := HX2.out.r.x.lt
        have hyl := HX2.out.r.y.lt
        go_upto_region 22 with fail
        have hXd := HX2.out.no ((Keeps.refl NoS _).drew)
        refine wp_region_kept_drew 15 (fun w' => (w'.cell? ⟨G, t * 5, none⟩ = some (.int .i64 th) ∧ w'.cell? ⟨G, t * 5 + 1, none⟩ = some (.int .i64 lk) ∧ w'.cell? ⟨G, t * 5 + 2, none⟩ = some (.int .i64 s) ∧ w'.cell? ⟨G, t * 5 + 3, none⟩ = some (.bool rd) ∧ w'.cell? ⟨G, t * 5 + 4, none⟩ = some (.int .i64 x)) ∧ (w'.cell? ⟨(G + 1), t * 5, none⟩ = some (.int .i64 th) ∧ w'.cell? ⟨(G + 1), t * 5 + 1, none⟩ = some (.int .i64 lk) ∧ w'.cell? ⟨(G + 1), t * 5 + 2, none⟩ = some (.int .i64 s) ∧ w'.cell? ⟨(G + 1), t * 5 + 3, none⟩ = some (.bool rd) ∧ w'.cell? ⟨(G + 1), t * 5 + 4, none⟩ = some (.int .i64 x)) ∧ (w'.cell? ⟨B, 0, none⟩ = some (.int .i64 2) ∧ w'.cell? ⟨B, 1, none⟩ = some (.int .i64 2) ∧ w'.cell? ⟨B, 2, none⟩ = some (.int .i64 4) ∧ w'.cell? ⟨B, 3, none⟩ = some (.int .i64 0) ∧ w'.cell? ⟨B, 4, none⟩ = some (.int .i64 2)) ∧ (w'.cell? ⟨F, 0, none⟩ = some (.int .i64 2) ∧ w'.cell? ⟨F, 1, none⟩ = some (.int .i64 2) ∧ w'.cell? ⟨F, 2, none⟩ = some (.int .i64 4) ∧ w'.cell? ⟨F, 3, none⟩ = some (.int .i64 0) ∧ w'.cell? ⟨F, 4, none⟩ = some (.int .i64 2))) 17 (fun w' => (w'.cell? ⟨(G + 1), t * 5, none⟩ = some (.int .i64 th) ∧ w'.cell? ⟨(G + 1), t * 5 + 1, none⟩ = some (.int .i64 lk) ∧ w'.cell? ⟨(G + 1), t * 5 + 2, none⟩ = some (.int .i64 s) ∧ w'.cell? ⟨(G + 1), t * 5 + 3, none⟩ = some (.bool rd) ∧ w'.cell? ⟨(G + 1), t * 5 + 4, none⟩ = some (.int .i64 x)) ∧ (w'.cell? ⟨B, 0, none⟩ = some (.int .i64 2) ∧ w'.cell? ⟨B, 1, none⟩ = some (.int .i64 2) ∧ w'.cell? ⟨B, 2, none⟩ = some (.int .i64 4) ∧ w'.cell? ⟨B, 3, none⟩ = some (.int .i64 0) ∧ w'.cell? ⟨B, 4, none⟩ = some (.int .i64 2)) ∧ (w'.cell? ⟨F, 0, none⟩ = some (.int .i64 2) ∧ w'.cell? ⟨F, 1, none⟩ = some (.int .i64 2) ∧ w'.cell? ⟨F, 2, none⟩ = some (.int .i64 4) ∧ w'.cell? ⟨F, 3, none⟩ = some (.int .i64 0) ∧ w'.cell? ⟨F, 4, none⟩ = some (.int .i64 2))) (by kernel_rfl) (⟨⟨u0, u1, u2, u3, u4⟩, ⟨v0, v1, v2, v3, v4⟩, ⟨m0, m1, m2, m3, m4⟩, ⟨n0, n1, n2, n3, n4⟩⟩) (⟨⟨v0, v1, v2, v3, v4⟩, ⟨m0, m1, m2, m3, m4⟩, ⟨n0, n1, n2, n3, n4⟩⟩) (fun hK => ?_)
        refine wpAnyK_take1 (i := 0) (v := ?_) (by simp only [List.getElem?_toArray, List.getElem?_cons_succ, List.getElem?_cons_zero]; rfl) (by kernel_rfl) (by kernel_rfl) (by kernel_rfl) (by kernel_rfl) (by kernel_rfl) (by kernel_rfl) (by exact fun _ _ _ h => h) (Or.inl ⟨by rfl, ?_⟩) (hK _) ?_
        rotate_left
        · intro w hSw; (try dsimp only at hSw); go_simp; (try with_reducible rfl)
        try simp only [Act.put, List.setIfInBounds_toArray, List.set_cons_zero, List.set_cons_succ]
        refine wpAnyK_take2 (i := 1) (v := ?_) (by simp only [List.getElem?_toArray, List.getElem?_cons_succ, List.getElem?_cons_zero]; rfl) (by kernel_rfl) (by kernel_rfl) (by kernel_rfl) (by kernel_rfl) (by kernel_rfl) (by kernel_rfl) (by exact fun _ _ _ h => h) (Or.inl ⟨by rfl, ?_⟩) (hK _) ?_
        rotate_left
        · intro w hSw; (try dsimp only at hSw); go_simp; (try with_reducible rfl)
        try simp only [Act.put, List.setIfInBounds_toArray, List.set_cons_zero, List.set_cons_succ]
        refine wpAnyK_take1 (i := 2) (v := ?_) (by simp only [List.getElem?_toArray, List.getElem?_cons_succ, List.getElem?_cons_zero]; rfl) (by kernel_rfl) (by kernel_rfl) (by kernel_rfl) (by kernel_rfl) (by kernel_rfl) (by kernel_rfl) (by exact fun _ _ _ h => h) (Or.inl ⟨by rfl, ?_⟩) (hK _) ?_
        rotate_left
        · intro w hSw; (try dsimp only at hSw); go_simp; (try with_reducible rfl)
        try simp only [Act.put, List.setIfInBounds_toArray, List.set_cons_zero, List.set_cons_succ]
        refine wpAnyK_take1 (i := 3) (v := ?_) (by simp only [List.getElem?_toArray, List.getElem?_cons_succ, List.getElem?_cons_zero]; rfl) (by kernel_rfl) (by kernel_rfl) (by kernel_rfl) (by kernel_rfl) (by kernel_rfl) (by kernel_rfl) (by exact fun _ _ _ h => h) (Or.inl ⟨by rfl, ?_⟩) (hK _) ?_
        rotate_left
        · intro w hSw; (try dsimp only at hSw); go_simp; (try with_reducible rfl)
        try simp only [Act.put, List.setIfInBounds_toArray, List.set_cons_zero, List.set_cons_succ]
        refine wpAnyK_take1 (i := 4) (v := ?_) (by simp only [List.getElem?_toArray, List.getElem?_cons_succ, List.getElem?_cons_zero]; rfl) (by kernel_rfl) (by kernel_rfl) (by kernel_rfl) (by kernel_rfl) (by kernel_rfl) (by kernel_rfl) (by exact fun _ _ _ h => h) (Or.inl ⟨by rfl, ?_⟩) (hK _) ?_
        rotate_left
        · intro w hSw; (try dsimp only at hSw); go_simp; (try with_reducible rfl)
        try simp only [Act.put, List.setIfInBounds_toArray, List.set_cons_zero, List.set_cons_succ]
        refine wpAnyK_take1 (i := 5) (v := ?_) (by simp only [List.getElem?_toArray, List.getElem?_cons_succ, List.getElem?_cons_zero]; rfl) (by kernel_rfl) (by kernel_rfl) (by kernel_rfl) (by kernel_rfl) (by kernel_rfl) (by kernel_rfl) (by exact fun _ _ _ h => h) (Or.inl ⟨by rfl, ?_⟩) (hK _) ?_
        rotate_left
        · intro w hSw; (try dsimp only at hSw); go_simp; (try with_reducible rfl)
        try simp only [Act.put, List.setIfInBounds_toArray, List.set_cons_zero, List.set_cons_succ]
        refine wpAnyK_take1 (i := 6) (v := ?_) (by simp only [List.getElem?_toArray, List.getElem?_cons_succ, List.getElem?_cons_zero]; rfl) (by kernel_rfl) (by kernel_rfl) (by kernel_rfl) (by kernel_rfl) (by kernel_rfl) (by kernel_rfl) (by exact fun _ _ _ h => h) (Or.inl ⟨by rfl, ?_⟩) (hK _) ?_
        rotate_left
        · intro w hSw; (try dsimp only at hSw); go_simp; (try with_reducible rfl)
        try simp only [Act.put, List.setIfInBounds_toArray, List.set_cons_zero, List.set_cons_succ]
        refine wpAnyK_take2 (i := 8) (v := ?_) (by simp only [List.getElem?_toArray, List.getElem?_cons_succ, List.getElem?_cons_zero]; rfl) (by kernel_rfl) (by kernel_rfl) (by kernel_rfl) (by kernel_rfl) (by kernel_rfl) (by kernel_rfl) (by exact fun _ _ _ h => h) (Or.inl ⟨by rfl, ?_⟩) (hK _) ?_
        rotate_left
        · intro w hSw; (try dsimp only at hSw); go_simp; (try with_reducible rfl)
        try simp only [Act.put, List.setIfInBounds_toArray, List.set_cons_zero, List.set_cons_succ]
        refine wpAnyK_take2 (i := 9) (v := ?_) (by simp only [List.getElem?_toArray, List.getElem?_cons_succ, List.getElem?_cons_zero]; rfl) (by kernel_rfl) (by kernel_rfl) (by kernel_rfl) (by kernel_rfl) (by kernel_rfl) (by kernel_rfl) (by exact fun _ _ _ h => h) (Or.inl ⟨by rfl, ?_⟩) (hK _) ?_
        rotate_left
        · intro w hSw; (try dsimp only at hSw); go_simp; (try with_reducible rfl)
        try simp only [Act.put, List.setIfInBounds_toArray, List.set_cons_zero, List.set_cons_succ]
        refine wpAnyK_take2 (i := 10) (v := ?_) (by simp only [List.getElem?_toArray, List.getElem?_cons_succ, List.getElem?_cons_zero]; rfl) (by kernel_rfl) (by kernel_rfl) (by kernel_rfl) (by kernel_rfl) (by kernel_rfl) (by kernel_rfl) (by exact fun _ _ _ h => h) (Or.inl ⟨by rfl, ?_⟩) (hK _) ?_
        rotate_left
        · intro w hSw; (try dsimp only at hSw); go_simp; (try with_reducible rfl)
        try simp only [Act.put, List.setIfInBounds_toArray, List.set_cons_zero, List.set_cons_succ]
        refine wpAnyK_take2 (i := 11) (v := ?_) (by simp only [List.getElem?_toArray, List.getElem?_cons_succ, List.getElem?_cons_zero]; rfl) (by kernel_rfl) (by kernel_rfl) (by kernel_rfl) (by kernel_rfl) (by kernel_rfl) (by kernel_rfl) (by exact fun _ _ _ h => h) (Or.inl ⟨by rfl, ?_⟩) (hK _) ?_
        rotate_left
        · intro w hSw; (try dsimp only at hSw); go_simp; (try with_reducible rfl)
        try simp only [Act.put, List.setIfInBounds_toArray, List.set_cons_zero, List.set_cons_succ]
        refine wpAnyK_take2 (i := 12) (v := ?_) (by simp only [List.getElem?_toArray, List.getElem?_cons_succ, List.getElem?_cons_zero]; rfl) (by kernel_rfl) (by kernel_rfl) (by kernel_rfl) (by kernel_rfl) (by kernel_rfl) (by kernel_rfl) (by exact fun _ _ _ h => h) (Or.inl ⟨by rfl, ?_⟩) (hK _) ?_
        rotate_left
        · intro w hSw; (try dsimp only at hSw); go_simp; (try with_reducible rfl)
        try simp only [Act.put, List.setIfInBounds_toArray, List.set_cons_zero, List.set_cons_succ]
        refine wpAnyK_one (i := 7) (by kernel_rfl) (by simp only [List.getElem?_toArray, List.getElem?_cons_succ, List.getElem?_cons_zero]; rfl) (fun kC hkC => ?_)
        go_simp
        refine (rwtake8_any th lk s rd x a v M _ hXd.r.t.s.m HM.out).mono ?_; rw [HD.out]; unfold handV; dsimp only; rintro e w5 ⟨rfl, hm, hk⟩; have hT5 := hXd.r.t.turnS hm hk; have hx5 := hXd.r.x.keep hk (HA.out.na (Nat.le_refl _)); have hy5 := hXd.r.y.keep hk (HA.out.na (by omega)); have hb5 := hXd.b.keep hk (HA.out.na (by omega)); have m5 := HBm.out _ hT5.s.kp; have n5 := HFm.out _ hT5.s.kp; have hX5 := hx5.at ht HFT.out; have hY5 := hy5.at ht HFT.out; clear hm hk
        (try go_wp2_with fail)
        refine hkC.out _ _ (⟨hX5, hY5, m5, n5⟩) (⟨hY5, m5, n5⟩) (fun hK => ?_)
        clear hkC kC
        try simp only [Act.put, List.setIfInBounds_toArray, List.set_cons_zero, List.set_cons_succ]
        refine wpAnyK_take1 (i := 14) (v := ?_) (by simp only [List.getElem?_toArray, List.getElem?_cons_succ, List.getElem?_cons_zero]; rfl) (by kernel_rfl) (by kernel_rfl) (by kernel_rfl) (by kernel_rfl) (by kernel_rfl) (by kernel_rfl) (by exact fun _ _ _ h => h) (Or.inl ⟨by rfl, ?_⟩) (hK _) ?_
        rotate_left
        · intro w hSw; (try dsimp only at hSw); go_simp; (try with_reducible rfl)
        try simp only [Act.put, List.setIfInBounds_toArray, List.set_cons_zero, List.set_cons_succ]
        refine wpAnyK_one (i := 13) (by kernel_rfl) (by simp only [List.getElem?_toArray, List.getElem?_cons_succ, List.getElem?_cons_zero]; rfl) (fun kC hkC => ?_)
        go_simp
        refine (rrwtake8_any th lk s rd x c u M _ hT5.r.m HM.out).mono ?_; rw [HD.out]; unfold handV; dsimp only; rintro e w7 ⟨rfl, hm, hk⟩; have hT7 := hT5.turnR hm hk; have hx7 := hx5.keep hk (HA.out.nc (Nat.le_refl _)); have hy7 := hy5.keep hk (HA.out.nc (by omega)); have hb7 := hb5.keep hk (HA.out.nc (by omega)); have m7 := HBm.out _ hT7.s.kp; have n7 := HFm.out _ hT7.s.kp; have hX7 := hx7.at ht HFT.out; have hY7 := hy7.at ht HFT.out; obtain ⟨F0, F1, F2, F3, F4⟩ := hx7.frees t; obtain ⟨G0, G1, G2, G3, G4⟩ := hy7.frees t; have hl7 := hy7.lt; have hput7 := RnS.put ⟨⟨hT7, hx7, hy7⟩, hb7⟩ HA.out t ht ⟨t3, l3, s', r3, x'⟩; have HP := Lib.hid hput7; have hyS := (hy7.outH (G' := G) (by omega) t ⟨t3, l3, s', r3, x'⟩).at ht HFT.out; have mS := HBm.out _ (hT7.s.kp.setH (g := G) hWB t ⟨t3, l3, s', r3, x'⟩); have nS := HFm.out _ (hT7.s.kp.setH (g := G) hWB t ⟨t3, l3, s', r3, x'⟩); unfold setH at hyS mS nS; dsimp only at hyS mS nS; clear hm hk hput7
        (try go_wp2_with fail)
        refine hkC.out _ _ (⟨hX7, hY7, m7, n7⟩) (⟨hY7, m7, n7⟩) (fun hK => ?_)
        clear hkC kC
        try simp only [Act.put, List.setIfInBounds_toArray, List.set_cons_zero, List.set_cons_succ]
        refine wpAnyK_mid (i := 15) (by kernel_rfl) (by simp only [List.getElem?_toArray, List.getElem?_cons_succ, List.getElem?_cons_zero]; rfl) (by kernel_rfl) (fun kC hkC => ?_)
        go_simp
        refine hkC.out _ _ (⟨hyS, mS, nS⟩) (fun hM => ?_)
        clear hkC kC
        try simp only [Act.put, List.setIfInBounds_toArray, List.set_cons_zero, List.set_cons_succ]
        refine wpAnyK_take2 (i := 16) (v := ?_) (by simp only [List.getElem?_toArray, List.getElem?_cons_succ, List.getElem?_cons_zero]; rfl) (by kernel_rfl) (by kernel_rfl) (by kernel_rfl) (by kernel_rfl) (by kernel_rfl) (by kernel_rfl) (by exact fun _ _ _ h => h) (Or.inl ⟨by rfl, ?_⟩) (ReqK.mid (by kernel_rfl) hM) ?_
        rotate_left
        · intro w hSw; (try dsimp only at hSw); go_simp; (try with_reducible rfl)
        try simp only [Act.put, List.setIfInBounds_toArray, List.set_cons_zero, List.set_cons_succ]
        refine wpAnyK_last (i := 17) (by kernel_rfl) (by simp only [List.getElem?_toArray, List.getElem?_cons_succ, List.getElem?_cons_zero]; rfl) (by kernel_rfl) (by kernel_rfl) (fun kC hkC => ?_)
        go_simp
        refine hkC.out _ _ ?_
        clear hkC kC
        try simp only [Act.put, List.setIfInBounds_toArray, List.set_cons_zero, List.set_cons_succ]
        refine wpAnyK_done (by kernel_rfl) ?_ _
        have hP := HP.out
        unfold setH at hP
        dsimp only at hP
        generalize (((((((((w7.setCell ⟨G, t * 5, none⟩ (.int .i64 t3)).setCell ⟨G, t * 5 + 1, none⟩ (.int .i64 l3)).setCell ⟨G, t * 5 + 2, none⟩ (.int .i64 s')).setCell ⟨G, t * 5 + 3, none⟩ (.bool r3)).setCell ⟨G, t * 5 + 4, none⟩ (.int .i64 x')).setCell ⟨(G + 1), t * 5, none⟩ (.int .i64 t3)).setCell ⟨(G + 1), t * 5 + 1, none⟩ (.int .i64 l3)).setCell ⟨(G + 1), t * 5 + 2, none⟩ (.int .i64 s')).setCell ⟨(G + 1), t * 5 + 3, none⟩ (.bool r3)).setCell ⟨(G + 1), t * 5 + 4, none⟩ (.int .i64 x') = wz at *
        have hft' := hput_at (f := f) (t := t) (h := ⟨t3, l3, s', r3, x'⟩)
        generalize hput f t ⟨t3, l3, s', r3, x'⟩ = f' at *
        have HX' := Lib.hid hP; have HFT' := Lib.hid hft'
        clear hP HP hft' hT5 hT7 hx5 hx7 hy5 hy7 hb5 hb7 m5 m7 n5 n7 hX5 hX7 hY5 hY7 F0 F1 F2 F3 F4 G0 G1 G2 G3 G4 hl7 hyS mS nS hXd hK u0 u1 u2 u3 u4 v0 v1 v2 v3 v4 m0 m1 m2 m3 m4 n0 n1 n2 n3 n4 HX2 hxl hyl
        cases r3
        · obtain ⟨u0, u1, u2, u3, u4⟩ := HX'.out.r.x.at ht HFT'.out
          obtain ⟨v0, v1, v2, v3, v4⟩ := HX'.out.r.y.at ht HFT'.out
          have hTd := HX'.out.r.t.keep ((Keeps.refl NoS _).drew)
          go_wp2_with fail
          refine wp_region_held_drew (S := (fun w' => (w'.cell? ⟨G, t * 5, none⟩ = some (.int .i64 t3) ∧ w'.cell? ⟨G, t * 5 + 1, none⟩ = some (.int .i64 l3) ∧ w'.cell? ⟨G, t * 5 + 2, none⟩ = some (.int .i64 s') ∧ w'.cell? ⟨G, t * 5 + 3, none⟩ = some (.bool false) ∧ w'.cell? ⟨G, t * 5 + 4, none⟩ = some (.int .i64 x')) ∧ (w'.cell? ⟨(G + 1), t * 5, none⟩ = some (.int .i64 t3) ∧ w'.cell? ⟨(G + 1), t * 5 + 1, none⟩ = some (.int .i64 l3) ∧ w'.cell? ⟨(G + 1), t * 5 + 2, none⟩ = some (.int .i64 s') ∧ w'.cell? ⟨(G + 1), t * 5 + 3, none⟩ = some (.bool false) ∧ w'.cell? ⟨(G + 1), t * 5 + 4, none⟩ = some (.int .i64 x')))) (by kernel_rfl) (⟨⟨u0, u1, u2, u3, u4⟩, ⟨v0, v1, v2, v3, v4⟩⟩) (fun hHeld => ?_)
          refine wpAnyH_take (i := 0) (v := ?_) (by simp only [List.getElem?_toArray, List.getElem?_cons_succ, List.getElem?_cons_zero]; rfl) (by kernel_rfl) (by kernel_rfl) (by kernel_rfl) (by exact fun _ _ _ h => h) (Or.inl ⟨by rfl, ?_⟩) hHeld ?_
          rotate_left
          · intro w hSw; (try dsimp only at hSw); go_simp; (try with_reducible rfl)
          try simp only [Act.put, List.setIfInBounds_toArray, List.set_cons_zero, List.set_cons_succ]
          refine wpAnyH_take (i := 1) (v := ?_) (by simp only [List.getElem?_toArray, List.getElem?_cons_succ, List.getElem?_cons_zero]; rfl) (by kernel_rfl) (by kernel_rfl) (by kernel_rfl) (by exact fun _ _ _ h => h) (Or.inl ⟨by rfl, ?_⟩) hHeld ?_
          rotate_left
          · intro w hSw; (try dsimp only at hSw); go_simp; (try with_reducible rfl)
          try simp only [Act.put, List.setIfInBounds_toArray, List.set_cons_zero, List.set_cons_succ]
          refine wpAnyH_take (i := 2) (v := ?_) (by simp only [List.getElem?_toArray, List.getElem?_cons_succ, List.getElem?_cons_zero]; rfl) (by kernel_rfl) (by kernel_rfl) (by kernel_rfl) (by exact fun _ _ _ h => h) (Or.inl ⟨by rfl, ?_⟩) hHeld ?_
          rotate_left
          · intro w hSw; (try dsimp only at hSw); go_simp; (try with_reducible rfl)
          try simp only [Act.put, List.setIfInBounds_toArray, List.set_cons_zero, List.set_cons_succ]
          refine wpAnyH_take (i := 3) (v := ?_) (by simp only [List.getElem?_toArray, List.getElem?_cons_succ, List.getElem?_cons_zero]; rfl) (by kernel_rfl) (by kernel_rfl) (by kernel_rfl) (by exact fun _ _ _ h => h) (Or.inl ⟨by rfl, ?_⟩) hHeld ?_
          rotate_left
          · intro w hSw; (try dsimp only at hSw); go_simp; (try with_reducible rfl)
          try simp only [Act.put, List.setIfInBounds_toArray, List.set_cons_zero, List.set_cons_succ]
          refine wpAnyH_take (i := 4) (v := ?_) (by simp only [List.getElem?_toArray, List.getElem?_cons_succ, List.getElem?_cons_zero]; rfl) (by kernel_rfl) (by kernel_rfl) (by kernel_rfl) (by exact fun _ _ _ h => h) (Or.inl ⟨by rfl, ?_⟩) hHeld ?_
          rotate_left
          · intro w hSw; (try dsimp only at hSw); go_simp; (try with_reducible rfl)
          try simp only [Act.put, List.setIfInBounds_toArray, List.set_cons_zero, List.set_cons_succ]
          refine wpAnyH_take (i := 5) (v := ?_) (by simp only [List.getElem?_toArray, List.getElem?_cons_succ, List.getElem?_cons_zero]; rfl) (by kernel_rfl) (by kernel_rfl) (by kernel_rfl) (by exact fun _ _ _ h => h) (Or.inl ⟨by rfl, ?_⟩) hHeld ?_
          rotate_left
          · intro w hSw; (try dsimp only at hSw); go_simp; (try with_reducible rfl)
          try simp only [Act.put, List.setIfInBounds_toArray, List.set_cons_zero, List.set_cons_succ]
          refine wpAnyH_take (i := 6) (v := ?_) (by simp only [List.getElem?_toArray, List.getElem?_cons_succ, List.getElem?_cons_zero]; rfl) (by kernel_rfl) (by kernel_rfl) (by kernel_rfl) (by exact fun _ _ _ h => h) (Or.inl ⟨by rfl, ?_⟩) hHeld ?_
          rotate_left
          · intro w hSw; (try dsimp only at hSw); go_simp; (try with_reducible rfl)
          try simp only [Act.put, List.setIfInBounds_toArray, List.set_cons_zero, List.set_cons_succ]
          refine wpAnyH_take (i := 7) (v := ?_) (by simp only [List.getElem?_toArray, List.getElem?_cons_succ, List.getElem?_cons_zero]; rfl) (by kernel_rfl) (by kernel_rfl) (by kernel_rfl) (by exact fun _ _ _ h => h) (Or.inl ⟨by rfl, ?_⟩) hHeld ?_
          rotate_left
          · intro w hSw; (try dsimp only at hSw); go_simp; (try with_reducible rfl)
          try simp only [Act.put, List.setIfInBounds_toArray, List.set_cons_zero, List.set_cons_succ]
          refine wpAnyH_take (i := 8) (v := ?_) (by simp only [List.getElem?_toArray, List.getElem?_cons_succ, List.getElem?_cons_zero]; rfl) (by kernel_rfl) (by kernel_rfl) (by kernel_rfl) (by exact fun _ _ _ h => h) (Or.inl ⟨by rfl, ?_⟩) hHeld ?_
          rotate_left
          · intro w hSw; (try dsimp only at hSw); go_simp; (try with_reducible rfl)
          try simp only [Act.put, List.setIfInBounds_toArray, List.set_cons_zero, List.set_cons_succ]
          refine wpAnyH_take (i := 9) (v := ?_) (by simp only [List.getElem?_toArray, List.getElem?_cons_succ, List.getElem?_cons_zero]; rfl) (by kernel_rfl) (by kernel_rfl) (by kernel_rfl) (by exact fun _ _ _ h => h) (Or.inl ⟨by rfl, ?_⟩) hHeld ?_
          rotate_left
          · intro w hSw; (try dsimp only at hSw); go_simp; (try with_reducible rfl)
          try simp only [Act.put, List.setIfInBounds_toArray, List.set_cons_zero, List.set_cons_succ]
          refine wpAnyH_ready (rs := [10]) (by kernel_rfl) (by simp) ?_
          refine AllReadyH.cons (by simp only [List.getElem?_toArray, List.getElem?_cons_succ, List.getElem?_cons_zero]; rfl) (fun kC hkC => ?_) AllReadyH.nil
          go_simp
          refine (like_keep W _ a c v u M' hTd).mono ?_; rintro e w8 ⟨rfl, hT8, hk8⟩; have hX8 := (HX'.out.no ((Keeps.refl NoS _).drew)).no hk8
          (try go_wp2_with fail)
          refine hkC.out _ _ (And.intro (hX8.r.x.at ht HFT'.out) (hX8.r.y.at ht HFT'.out)) (fun hHeld => ?_)
          clear hkC kC
          try simp only [Act.put, List.setIfInBounds_toArray, List.set_cons_zero, List.set_cons_succ]
          refine wpAnyH_take (i := 11) (v := ?_) (by simp only [List.getElem?_toArray, List.getElem?_cons_succ, List.getElem?_cons_zero]; rfl) (by kernel_rfl) (by kernel_rfl) (by kernel_rfl) (by exact fun _ _ _ h => h) (Or.inl ⟨by rfl, ?_⟩) hHeld ?_
          rotate_left
          · intro w hSw; (try dsimp only at hSw); go_simp; (try with_reducible rfl)
          try simp only [Act.put, List.setIfInBounds_toArray, List.set_cons_zero, List.set_cons_succ]
          refine wpAnyH_take (i := 12) (v := ?_) (by simp only [List.getElem?_toArray, List.getElem?_cons_succ, List.getElem?_cons_zero]; rfl) (by kernel_rfl) (by kernel_rfl) (by kernel_rfl) (by exact fun _ _ _ h => h) (Or.inl ⟨by rfl, ?_⟩) hHeld ?_
          rotate_left
          · intro w hSw; (try dsimp only at hSw); go_simp; (try with_reducible rfl)
          try simp only [Act.put, List.setIfInBounds_toArray, List.set_cons_zero, List.set_cons_succ]
          refine wpAnyH_done (by kernel_rfl) ?_ _
          go_wp2_with fail
          go_roundw
          case rel => exact ⟨n + 1, M', f', _, by omega, by go_num, hX8, HI'.out⟩
          case measure => simp [intOf]; omega
        · obtain ⟨u0, u1, u2, u3, u4⟩ := HX'.out.r.x.at ht HFT'.out
          obtain ⟨v0, v1, v2, v3, v4⟩ := HX'.out.r.y.at ht HFT'.out
          have hTd := HX'.out.r.t.keep ((Keeps.refl NoS _).drew)
          go_wp2_with fail
          refine wp_region_held_drew (S := (fun w' => (w'.cell? ⟨G, t * 5, none⟩ = some (.int .i64 t3) ∧ w'.cell? ⟨G, t * 5 + 1, none⟩ = some (.int .i64 l3) ∧ w'.cell? ⟨G, t * 5 + 2, none⟩ = some (.int .i64 s') ∧ w'.cell? ⟨G, t * 5 + 3, none⟩ = some (.bool true) ∧ w'.cell? ⟨G, t * 5 + 4, none⟩ = some (.int .i64 x')) ∧ (w'.cell? ⟨(G + 1), t * 5, none⟩ = some (.int .i64 t3) ∧ w'.cell? ⟨(G + 1), t * 5 + 1, none⟩ = some (.int .i64 l3) ∧ w'.cell? ⟨(G + 1), t * 5 + 2, none⟩ = some (.int .i64 s') ∧ w'.cell? ⟨(G + 1), t * 5 + 3, none⟩ = some (.bool true) ∧ w'.cell? ⟨(G + 1), t * 5 + 4, none⟩ = some (.int .i64 x')))) (by kernel_rfl) (⟨⟨u0, u1, u2, u3, u4⟩, ⟨v0, v1, v2, v3, v4⟩⟩) (fun hHeld => ?_)
          refine wpAnyH_take (i := 0) (v := ?_) (by simp only [List.getElem?_toArray, List.getElem?_cons_succ, List.getElem?_cons_zero]; rfl) (by kernel_rfl) (by kernel_rfl) (by kernel_rfl) (by exact fun _ _ _ h => h) (Or.inl ⟨by rfl, ?_⟩) hHeld ?_
          rotate_left
          · intro w hSw; (try dsimp only at hSw); go_simp; (try with_reducible rfl)
          try simp only [Act.put, List.setIfInBounds_toArray, List.set_cons_zero, List.set_cons_succ]
          refine wpAnyH_take (i := 1) (v := ?_) (by simp only [List.getElem?_toArray, List.getElem?_cons_succ, List.getElem?_cons_zero]; rfl) (by kernel_rfl) (by kernel_rfl) (by kernel_rfl) (by exact fun _ _ _ h => h) (Or.inl ⟨by rfl, ?_⟩) hHeld ?_
          rotate_left
          · intro w hSw; (try dsimp only at hSw); go_simp; (try with_reducible rfl)
          try simp only [Act.put, List.setIfInBounds_toArray, List.set_cons_zero, List.set_cons_succ]
          refine wpAnyH_take (i := 2) (v := ?_) (by simp only [List.getElem?_toArray, List.getElem?_cons_succ, List.getElem?_cons_zero]; rfl) (by kernel_rfl) (by kernel_rfl) (by kernel_rfl) (by exact fun _ _ _ h => h) (Or.inl ⟨by rfl, ?_⟩) hHeld ?_
          rotate_left
          · intro w hSw; (try dsimp only at hSw); go_simp; (try with_reducible rfl)
          try simp only [Act.put, List.setIfInBounds_toArray, List.set_cons_zero, List.set_cons_succ]
          refine wpAnyH_take (i := 3) (v := ?_) (by simp only [List.getElem?_toArray, List.getElem?_cons_succ, List.getElem?_cons_zero]; rfl) (by kernel_rfl) (by kernel_rfl) (by kernel_rfl) (by exact fun _ _ _ h => h) (Or.inl ⟨by rfl, ?_⟩) hHeld ?_
          rotate_left
          · intro w hSw; (try dsimp only at hSw); go_simp; (try with_reducible rfl)
          try simp only [Act.put, List.setIfInBounds_toArray, List.set_cons_zero, List.set_cons_succ]
          refine wpAnyH_take (i := 4) (v := ?_) (by simp only [List.getElem?_toArray, List.getElem?_cons_succ, List.getElem?_cons_zero]; rfl) (by kernel_rfl) (by kernel_rfl) (by kernel_rfl) (by exact fun _ _ _ h => h) (Or.inl ⟨by rfl, ?_⟩) hHeld ?_
          rotate_left
          · intro w hSw; (try dsimp only at hSw); go_simp; (try with_reducible rfl)
          try simp only [Act.put, List.setIfInBounds_toArray, List.set_cons_zero, List.set_cons_succ]
          refine wpAnyH_take (i := 5) (v := ?_) (by simp only [List.getElem?_toArray, List.getElem?_cons_succ, List.getElem?_cons_zero]; rfl) (by kernel_rfl) (by kernel_rfl) (by kernel_rfl) (by exact fun _ _ _ h => h) (Or.inl ⟨by rfl, ?_⟩) hHeld ?_
          rotate_left
          · intro w hSw; (try dsimp only at hSw); go_simp; (try with_reducible rfl)
          try simp only [Act.put, List.setIfInBounds_toArray, List.set_cons_zero, List.set_cons_succ]
          refine wpAnyH_take (i := 6) (v := ?_) (by simp only [List.getElem?_toArray, List.getElem?_cons_succ, List.getElem?_cons_zero]; rfl) (by kernel_rfl) (by kernel_rfl) (by kernel_rfl) (by exact fun _ _ _ h => h) (Or.inl ⟨by rfl, ?_⟩) hHeld ?_
          rotate_left
          · intro w hSw; (try dsimp only at hSw); go_simp; (try with_reducible rfl)
          try simp only [Act.put, List.setIfInBounds_toArray, List.set_cons_zero, List.set_cons_succ]
          refine wpAnyH_take (i := 7) (v := ?_) (by simp only [List.getElem?_toArray, List.getElem?_cons_succ, List.getElem?_cons_zero]; rfl) (by kernel_rfl) (by kernel_rfl) (by kernel_rfl) (by exact fun _ _ _ h => h) (Or.inl ⟨by rfl, ?_⟩) hHeld ?_
          rotate_left
          · intro w hSw; (try dsimp only at hSw); go_simp; (try with_reducible rfl)
          try simp only [Act.put, List.setIfInBounds_toArray, List.set_cons_zero, List.set_cons_succ]
          refine wpAnyH_take (i := 8) (v := ?_) (by simp only [List.getElem?_toArray, List.getElem?_cons_succ, List.getElem?_cons_zero]; rfl) (by kernel_rfl) (by kernel_rfl) (by kernel_rfl) (by exact fun _ _ _ h => h) (Or.inl ⟨by rfl, ?_⟩) hHeld ?_
          rotate_left
          · intro w hSw; (try dsimp only at hSw); go_simp; (try with_reducible rfl)
          try simp only [Act.put, List.setIfInBounds_toArray, List.set_cons_zero, List.set_cons_succ]
          refine wpAnyH_take (i := 9) (v := ?_) (by simp only [List.getElem?_toArray, List.getElem?_cons_succ, List.getElem?_cons_zero]; rfl) (by kernel_rfl) (by kernel_rfl) (by kernel_rfl) (by exact fun _ _ _ h => h) (Or.inl ⟨by rfl, ?_⟩) hHeld ?_
          rotate_left
          · intro w hSw; (try dsimp only at hSw); go_simp; (try with_reducible rfl)
          try simp only [Act.put, List.setIfInBounds_toArray, List.set_cons_zero, List.set_cons_succ]
          refine wpAnyH_ready (rs := [10]) (by kernel_rfl) (by simp) ?_
          refine AllReadyH.cons (by simp only [List.getElem?_toArray, List.getElem?_cons_succ, List.getElem?_cons_zero]; rfl) (fun kC hkC => ?_) AllReadyH.nil
          go_simp
          refine (like_keep W _ a c v u M' hTd).mono ?_; rintro e w8 ⟨rfl, hT8, hk8⟩; have hX8 := (HX'.out.no ((Keeps.refl NoS _).drew)).no hk8
          (try go_wp2_with fail)
          refine hkC.out _ _ (And.intro (hX8.r.x.at ht HFT'.out) (hX8.r.y.at ht HFT'.out)) (fun hHeld => ?_)
          clear hkC kC
          try simp only [Act.put, List.setIfInBounds_toArray, List.set_cons_zero, List.set_cons_succ]
          refine wpAnyH_take (i := 11) (v := ?_) (by simp only [List.getElem?_toArray, List.getElem?_cons_succ, List.getElem?_cons_zero]; rfl) (by kernel_rfl) (by kernel_rfl) (by kernel_rfl) (by exact fun _ _ _ h => h) (Or.inl ⟨by rfl, ?_⟩) hHeld ?_
          rotate_left
          · intro w hSw; (try dsimp only at hSw); go_simp; (try with_reducible rfl)
          try simp only [Act.put, List.setIfInBounds_toArray, List.set_cons_zero, List.set_cons_succ]
          refine wpAnyH_take (i := 12) (v := ?_) (by simp only [List.getElem?_toArray, List.getElem?_cons_succ, List.getElem?_cons_zero]; rfl) (by kernel_rfl) (by kernel_rfl) (by kernel_rfl) (by exact fun _ _ _ h => h) (Or.inl ⟨by rfl, ?_⟩) hHeld ?_
          rotate_left
          · intro w hSw; (try dsimp only at hSw); go_simp; (try with_reducible rfl)
          try simp only [Act.put, List.setIfInBounds_toArray, List.set_cons_zero, List.set_cons_succ]
          refine wpAnyH_done (by kernel_rfl) ?_ _
          go_wp2_with fail
          go_roundw
          case rel => exact ⟨n + 1, M', f', _, by omega, by go_num, hX8, HI'.out⟩
          case measure => simp [intOf]; omega
    · obtain rfl : n = L.length := by omega
      have HT := Lib.hid HX.out.r.t
      go_wp2_with (first
        | (go_at_call 39; refine (told10_any _).mono ?_; rintro e x1' ⟨rfl, hkk⟩; have HT1 := Lib.hid (HT.out.keep hkk); clear hkk)
        | (go_at_call 35; refine (same_any a c v u M M _ HT1.out.s.m HT1.out.r.m rfl).mono ?_; rintro e x2' ⟨rfl, hkk⟩; have HT2 := Lib.hid (HT1.out.keep hkk); clear hkk))
      go_ret
      exact ⟨by simp, HWk.out.trans HT2.out.s.kp⟩
end Go.Proofs.Ytjchcmomppfilaa
