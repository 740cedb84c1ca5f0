/- Each step of any hand, at any words, is what the document says (the walk). -/
import Derived.Test.YtodaiogefgdcpaaTickAsksS
import Derived.Test.YtodaiogefgdcpaaDag
namespace Go.Proofs.Ytodaiogefgdcpaa
open Go.RowKit
theorem mod_bdT (z : Int) (n : Int) (h : 0 < n) : ∃ q, (IntKind.u64.wrap z).tmod n = q ∧ 0 ≤ q ∧ q < n := ⟨_, rfl, (u64_tmod_bd z n (by omega)).1, (u64_tmod_bd z n (by omega)).2⟩
set_option maxHeartbeats 40000000 in
set_option maxRecDepth 100000 in
theorem ticketAsks_walk (w : World) (L : List Int) (hL : L.length = 3) (_f0 : ∀ k, k < L.length → (Lit.int .i64 (L.getD k 0)).wf = true) (t0 : Int) (_e0 : (Lit.int .i64 t0).wf = true) (l0 : Int) (_e1 : (Lit.int .i64 l0).wf = true) (s0 : Int) (_e2 : (Lit.int .i64 s0).wf = true) (rd : Bool) (x0 : Int) (_e4 : (Lit.int .i64 x0).wf = true) (near drop : Bool) :
    Calls Try.prog 5 #[.agg (nums L), .agg #[.int .i64 t0, .int .i64 l0, .int .i64 s0, .bool rd, .int .i64 x0], .bool near, .bool drop] w fun e w' => e = .returned (.bool true) ∧ Keeps NoS w w' := by
  obtain ⟨w0, w1, w2, rfl⟩ := list3 hL
  clear hL _f0 _e0 _e1 _e2 _e4
  show Calls Try.prog 5 #[.agg #[.int .i64 w0, .int .i64 w1, .int .i64 w2], .agg #[.int .i64 t0, .int .i64 l0, .int .i64 s0, .bool rd, .int .i64 x0], .bool near, .bool drop] w _
  have hk0 := ((Keeps.refl NoS w).alloc (.cells #[.int .i64 w0, .int .i64 w1, .int .i64 w2] 41)).alloc (.cells #[.int .i64 t0, .int .i64 l0, .int .i64 s0, .bool rd, .int .i64 x0] 32)
  have hwb : ((w.alloc (.cells #[.int .i64 w0, .int .i64 w1, .int .i64 w2] 41)).alloc (.cells #[.int .i64 t0, .int .i64 l0, .int .i64 s0, .bool rd, .int .i64 x0] 32)).heap[w.heap.size]? = some (.cells #[.int .i64 w0, .int .i64 w1, .int .i64 w2] 41 (0, 0)) := ((Keeps.refl NoS _).alloc _).blk (heap_alloc_new w (.cells #[.int .i64 w0, .int .i64 w1, .int .i64 w2] 41)) (fun f => f)
  have hhb : HandAt ((w.alloc (.cells #[.int .i64 w0, .int .i64 w1, .int .i64 w2] 41)).alloc (.cells #[.int .i64 t0, .int .i64 l0, .int .i64 s0, .bool rd, .int .i64 x0] 32)) 32 (w.heap.size + 1) t0 l0 s0 rd x0 := by
    have h := heap_alloc_new (w.alloc (.cells #[.int .i64 w0, .int .i64 w1, .int .i64 w2] 41)) (.cells #[.int .i64 t0, .int .i64 l0, .int .i64 s0, .bool rd, .int .i64 x0] 32)
    unfold HandAt
    simpa using h
  have hsz : ((w.alloc (.cells #[.int .i64 w0, .int .i64 w1, .int .i64 w2] 41)).alloc (.cells #[.int .i64 t0, .int .i64 l0, .int .i64 s0, .bool rd, .int .i64 x0] 32)).heap.size = w.heap.size + 2 := by simp
  obtain ⟨Wb, hWb⟩ : ∃ Wb, w.heap.size = Wb := ⟨_, rfl⟩
  go_enter Try.func5, Try.ntmps5
  go_wp2_with fail
  rw [hWb] at hwb hhb hsz
  (try rw [hWb])
  obtain ⟨H, hH⟩ : ∃ H, Wb + 1 = H := ⟨_, rfl⟩
  rw [hH] at hhb
  (try rw [hH])
  generalize (w.alloc (.cells #[.int .i64 w0, .int .i64 w1, .int .i64 w2] 41)).alloc (.cells #[.int .i64 t0, .int .i64 l0, .int .i64 s0, .bool rd, .int .i64 x0] 32) = wa at *
  refine (map8_any _).mono ?_
  rintro e w1' ⟨rfl, hk1⟩
  have hB := mapAt_new w1' 2 2 4 0 2 25
  have hkB := (Keeps.refl NoS w1').alloc (.cells #[.int .i64 2, .int .i64 2, .int .i64 4, .int .i64 0, .int .i64 2] 25)
  go_wp2_with fail
  obtain ⟨B, hBe⟩ : ∃ B, w1'.heap.size = B := ⟨_, rfl⟩
  have hBs : H < B := by rw [← hBe]; have := hk1.size; omega
  rw [hBe] at hB
  (try rw [hBe])
  have hwb2 := (hk1.trans hkB).blk hwb (fun f => f)
  have hhb2 := hhb.keep (hk1.trans hkB) (fun f => f)
  have hk2 := hk0.trans (hk1.trans hkB)
  have hBl : B < (w1'.alloc (.cells #[.int .i64 2, .int .i64 2, .int .i64 4, .int .i64 0, .int .i64 2] 25)).heap.size := by rw [← hBe]; simp
  clear hkB hk1 hBe hwb hhb hk0
  generalize w1'.alloc (.cells #[.int .i64 2, .int .i64 2, .int .i64 4, .int .i64 0, .int .i64 2] 25) = W at *
  refine (both_any 2 2 4 0 2 48 m8_size (by decide) (by decide) W).mono ?_
  rintro e w2' ⟨a, c, v, u, rfl, hT⟩
  have hS : TkS w w2' B H Wb a c v u (M0 48) (M0 48) w0 w1 w2 t0 l0 s0 rd x0 := ⟨hT.lift hk2, hB.keep hT.s.kp (fun f => f), hT.s.kp.blk hwb2 (fun f => f), hhb2.keep hT.s.kp (fun f => f), M0_len 48, M0_len 48,
    fun g hg => ⟨not_own (fun e => by have := hT.s.na; omega) (fun e => by have := hT.s.nv g e; omega), not_own (fun e => by have := hT.r.na; omega) (fun e => by have := hT.r.nv g e; omega)⟩, by omega, by omega, by omega⟩
  have HS := Lib.hid hS
  clear hS hT hwb2 hhb2 hk2 hBl hB hsz hH hWb hBs
  go_upto_if 25 with fail
  go_cut [] (fun wx => ∃ t l s x : Int, TkS w wx B H Wb a c v u (M0 48) (M0 48) w0 w1 w2 t l s rd x)
  case first =>
    cases near
    · go_wp2_with fail
      go_meet
      exact ⟨t0, l0, s0, x0, HS.out⟩
    · obtain ⟨c0, c1, c2, c3, c4, f0, f1, f2, f3, f4, fz⟩ := HS.out.hd.cells
      obtain ⟨q0, hq0, a0, b0⟩ := mod_bdT t0 4 (by omega)
      obtain ⟨q1, hq1, a1, b1⟩ := mod_bdT l0 2 (by omega)
      obtain ⟨q2, hq2, a2, b2⟩ := mod_bdT s0 4 (by omega)
      have hq : q2 = 0 ∨ q2 = 1 ∨ q2 = 2 ∨ q2 = 3 := by omega
      rcases hq with rfl | rfl | rfl | rfl
      · go_wp2_with fail
        go_region
        all_goals
          go_wp2_with fail
          go_meet
          refine ⟨q0, q1, 0, x0.tmod 4, HS.out.own ?_ ?_⟩
          · repeat (first | (with_reducible exact Keeps.refl _ _) | (with_reducible refine kH_set ?_ _ _) | (with_reducible refine Keeps.alloc ?_ _) | (with_reducible refine Keeps.drew ?_))
          · exact (((((HS.out.hd.set0 (t := q0)).set1 (l := q1)).set2 (s := 0)).set4 (x := x0.tmod 4)).alc _).drw
      · go_wp2_with fail
        go_region
        all_goals
          go_wp2_with fail
          go_meet
          refine ⟨q0, q1, 1, x0.tmod 4, HS.out.own ?_ ?_⟩
          · repeat (first | (with_reducible exact Keeps.refl _ _) | (with_reducible refine kH_set ?_ _ _) | (with_reducible refine Keeps.alloc ?_ _) | (with_reducible refine Keeps.drew ?_))
          · exact (((((HS.out.hd.set0 (t := q0)).set1 (l := q1)).set2 (s := 1)).set4 (x := x0.tmod 4)).alc _).drw
      · go_wp2_with fail
        go_region
        all_goals
          go_wp2_with fail
          go_meet
          refine ⟨q0, q1, 9, x0.tmod 4, HS.out.own ?_ ?_⟩
          · repeat (first | (with_reducible exact Keeps.refl _ _) | (with_reducible refine kH_set ?_ _ _) | (with_reducible refine Keeps.alloc ?_ _) | (with_reducible refine Keeps.drew ?_))
          · exact (((((HS.out.hd.set0 (t := q0)).set1 (l := q1)).set2 (s := 9)).set4 (x := x0.tmod 4)).alc _).drw
      · go_wp2_with fail
        go_region
        all_goals
          go_wp2_with fail
          go_meet
          refine ⟨q0, q1, 2, x0.tmod 4, HS.out.own ?_ ?_⟩
          · repeat (first | (with_reducible exact Keeps.refl _ _) | (with_reducible refine kH_set ?_ _ _) | (with_reducible refine Keeps.alloc ?_ _) | (with_reducible refine Keeps.drew ?_))
          · exact (((((HS.out.hd.set0 (t := q0)).set1 (l := q1)).set2 (s := 2)).set4 (x := x0.tmod 4)).alc _).drw
  case rest =>
    clear HS
    obtain ⟨t1, l1, s1, x1, hS⟩ := hcut
    have HS := Lib.hid hS
    clear hS
    obtain ⟨q, hq, hq0, hq2⟩ := mod_bdT l1 2 (by omega)
    have HQ := Lib.hid hq
    clear hq
    go_wp2_with fail
    go_loopw [12] (fun iv wq => ∃ (k : Nat) (M : MemS), k ≤ 3 ∧ iv = .int .i64 k ∧ TkS w wq B H Wb a c v u M M w0 w1 w2 t1 l1 s1 rd x1 ∧ 0 ≤ M.st ∧ M.st ≤ k) (fun iv _ => 3 - (intOf iv).toNat)
    case atStart => exact ⟨0, _, by omega, rfl, HS.out, Int.le_refl _, Int.le_refl _⟩
    case round =>
      obtain ⟨k, M, hk, rfl, hS, hst0, hst1⟩ := hrel
      have HS' := Lib.hid hS
      clear hS HS
      by_cases hk3 : k < 3
      · have k0 : (0 : Int) ≤ (k : Int) := by omega
        have k3 : (k : Int) < 3 := by omega
        obtain ⟨z, cz⟩ := HS'.out.word hk3
        obtain ⟨A, hA⟩ : ∃ A, lockP ⟨2, 2, 4, 0, 2⟩ q k = A := ⟨_, rfl⟩
        have HA := Lib.hid hA; have HCZ := Lib.hid cz
        clear hA cz
        obtain ⟨⟨m0, m1, m2, m3, m4⟩, c0, c1, c2, c3, c4⟩ := HS'.out.cells
        have hSt := storeI_st M A (z.tmod 4) k hst0 hst1 (by omega)
        have HST := Lib.hid hSt
        have hln : (M.storeI A (z.tmod 4)).L.length = 48 := (storeI_len _ _ _).trans HS'.out.len
        have HLN := Lib.hid hln
        clear hSt hln
        go_wp2_with fail
        have hS0 := HS'.out.no ((Keeps.refl NoS _).drew)
        have hq := HQ.out
        have hqw : IntKind.i64.wrap q = q := IntWalk.i64_in _ (by clear hq; omega)
        refine wp_region_held_drew (S := (fun w' => (w'.cell? ⟨B, 0, none⟩ = some (.int .i64 2) ∧ w'.cell? ⟨B, 1, none⟩ = some (.int .i64 2) ∧ w'.cell? ⟨B, 2, none⟩ = some (.int .i64 4) ∧ w'.cell? ⟨B, 3, none⟩ = some (.int .i64 0) ∧ w'.cell? ⟨B, 4, none⟩ = some (.int .i64 2)) ∧ w'.cell? ⟨H, 1, none⟩ = some (.int .i64 l1))) (by kernel_rfl) (⟨⟨m0, m1, m2, m3, m4⟩, c1⟩) (fun hHeld => ?_)
        refine wpAnyH_take (i := 0) (v := ?_) (by simp only [List.getElem?_toArray, List.getElem?_cons_succ, List.getElem?_cons_zero]; rfl) (by kernel_rfl) (by kernel_rfl) (by kernel_rfl) (by exact fun _ _ _ h => h) (Or.inl ⟨by rfl, ?_⟩) hHeld ?_
        rotate_left
        · intro w hSw; (try dsimp only at hSw); go_simp; (try with_reducible rfl)
        try simp only [Act.put, List.setIfInBounds_toArray, List.set_cons_zero, List.set_cons_succ]
        refine wpAnyH_take (i := 2) (v := ?_) (by simp only [List.getElem?_toArray, List.getElem?_cons_succ, List.getElem?_cons_zero]; rfl) (by kernel_rfl) (by kernel_rfl) (by kernel_rfl) (by exact fun _ _ _ h => h) (Or.inl ⟨by rfl, ?_⟩) hHeld ?_
        rotate_left
        · intro w hSw; (try dsimp only at hSw); go_simp; (try with_reducible rfl)
        try simp only [Act.put, List.setIfInBounds_toArray, List.set_cons_zero, List.set_cons_succ]
        refine wpAnyH_take (i := 3) (v := ?_) (by simp only [List.getElem?_toArray, List.getElem?_cons_succ, List.getElem?_cons_zero]; rfl) (by kernel_rfl) (by kernel_rfl) (by kernel_rfl) (by exact fun _ _ _ h => h) (Or.inl ⟨by rfl, ?_⟩) hHeld ?_
        rotate_left
        · intro w hSw; (try dsimp only at hSw); go_simp; (try with_reducible rfl)
        try simp only [Act.put, List.setIfInBounds_toArray, List.set_cons_zero, List.set_cons_succ]
        refine wpAnyH_take (i := 4) (v := ?_) (by simp only [List.getElem?_toArray, List.getElem?_cons_succ, List.getElem?_cons_zero]; rfl) (by kernel_rfl) (by kernel_rfl) (by kernel_rfl) (by exact fun _ _ _ h => h) (Or.inl ⟨by rfl, ?_⟩) hHeld ?_
        rotate_left
        · intro w hSw; (try dsimp only at hSw); go_simp; (try with_reducible rfl)
        try simp only [Act.put, List.setIfInBounds_toArray, List.set_cons_zero, List.set_cons_succ]
        refine wpAnyH_take (i := 5) (v := ?_) (by simp only [List.getElem?_toArray, List.getElem?_cons_succ, List.getElem?_cons_zero]; rfl) (by kernel_rfl) (by kernel_rfl) (by kernel_rfl) (by exact fun _ _ _ h => h) (Or.inl ⟨by rfl, ?_⟩) hHeld ?_
        rotate_left
        · intro w hSw; (try dsimp only at hSw); go_simp; (try with_reducible rfl)
        try simp only [Act.put, List.setIfInBounds_toArray, List.set_cons_zero, List.set_cons_succ]
        refine wpAnyH_take (i := 6) (v := ?_) (by simp only [List.getElem?_toArray, List.getElem?_cons_succ, List.getElem?_cons_zero]; rfl) (by kernel_rfl) (by kernel_rfl) (by kernel_rfl) (by exact fun _ _ _ h => h) (Or.inl ⟨by rfl, ?_⟩) hHeld ?_
        rotate_left
        · intro w hSw; (try dsimp only at hSw); go_simp; (try with_reducible rfl)
        try simp only [Act.put, List.setIfInBounds_toArray, List.set_cons_zero, List.set_cons_succ]
        refine wpAnyH_take (i := 7) (v := ?_) (by simp only [List.getElem?_toArray, List.getElem?_cons_succ, List.getElem?_cons_zero]; rfl) (by kernel_rfl) (by kernel_rfl) (by kernel_rfl) (by exact fun _ _ _ h => h) (Or.inl ⟨by rfl, ?_⟩) hHeld ?_
        rotate_left
        · intro w hSw; (try dsimp only at hSw); go_simp; (try with_reducible rfl)
        try simp only [Act.put, List.setIfInBounds_toArray, List.set_cons_zero, List.set_cons_succ]
        refine wpAnyH_ready (rs := [1]) (by kernel_rfl) (by simp) ?_
        refine AllReadyH.cons (by simp only [List.getElem?_toArray, List.getElem?_cons_succ, List.getElem?_cons_zero]; rfl) (fun kC hkC => ?_) AllReadyH.nil
        go_simp
        refine (ref_any ⟨2, 2, 4, 0, 2⟩ _).mono ?_; rintro e w3 ⟨rfl, hk3'⟩; unfold mapV; dsimp only; have hS3 := hS0.no hk3'
        (try go_wp2_with fail)
        refine hkC.out _ _ (And.intro hS3.cells.1 hS3.cells.2.2.1) (fun hHeld => ?_)
        clear hkC kC
        try simp only [Act.put, List.setIfInBounds_toArray, List.set_cons_zero, List.set_cons_succ]
        refine wpAnyH_ready (rs := [8]) (by kernel_rfl) (by simp) ?_
        refine AllReadyH.cons (by simp only [List.getElem?_toArray, List.getElem?_cons_succ, List.getElem?_cons_zero]; rfl) (fun kC hkC => ?_) AllReadyH.nil
        go_simp
        refine (rlock_lit 2 2 4 0 2 q k A HA.out _).mono ?_; rintro e w4 ⟨rfl, hk4'⟩; have hS4 := hS3.no hk4'
        (try go_wp2_with fail)
        refine hkC.out _ _ (And.intro hS4.cells.1 hS4.cells.2.2.1) (fun hHeld => ?_)
        clear hkC kC
        try simp only [Act.put, List.setIfInBounds_toArray, List.set_cons_zero, List.set_cons_succ]
        refine wpAnyH_take (i := 9) (v := ?_) (by simp only [List.getElem?_toArray, List.getElem?_cons_succ, List.getElem?_cons_zero]; rfl) (by kernel_rfl) (by kernel_rfl) (by kernel_rfl) (by exact fun _ _ _ h => h) (Or.inl ⟨by rfl, ?_⟩) hHeld ?_
        rotate_left
        · intro w hSw; (try dsimp only at hSw); go_simp; (try with_reducible rfl)
        try simp only [Act.put, List.setIfInBounds_toArray, List.set_cons_zero, List.set_cons_succ]
        refine wpAnyH_done (by kernel_rfl) ?_ _
        have hk04 := ((Keeps.refl NoS wr).drew.trans hk3').trans hk4'
        have cz4 := HCZ.out _ hk04
        have HS4 := Lib.hid hS4
        clear hS3 hS4 hS0 hk3' hk4' hk04 hq hqw
        go_wp2_with (first
          | (go_at_call 24; refine (store_tot a v M A (z.tmod 4) _ HS4.out.tw.s.m).mono ?_; rintro e w5 ⟨rfl, hm, hk5⟩; have hS5 := HS4.out.turnS hm hk5 HLN.out; have cz5 := hk5.cell cz4 (HS4.out.ap Wb (.inr (.inr rfl))).1; have HS5 := Lib.hid hS5; clear hS5 hm hk5)
          | (go_at_call 25; refine (rstore_tot c u M A (z.tmod 4) _ HS5.out.tw.r.m).mono ?_; rintro e w6 ⟨rfl, hm, hk6⟩; have hS6 := HS5.out.turnR hm hk6 HLN.out; have HS6 := Lib.hid hS6; clear hS6 hm hk6))
        go_roundw
        case rel => exact ⟨k + 1, _, by omega, by go_num, HS6.out, HST.out.1, by have := HST.out.2; omega⟩
        case measure => simp [intOf]; omega
      · obtain rfl : k = 3 := by omega
        obtain ⟨N0, hN0⟩ : ∃ N0, M.st = N0 := ⟨_, rfl⟩
        have hN0a : 0 ≤ N0 := by omega
        have hN0b : N0 ≤ 3 := by omega
        obtain ⟨M', h', hd⟩ : ∃ M' h', tkTake ⟨2, 2, 4, 0, 2⟩ M ⟨t1, l1, s1, rd, x1⟩ = (M', h') := ⟨_, _, rfl⟩
        have hl' : M'.L.length = 48 := by have := tkTake_len ⟨2, 2, 4, 0, 2⟩ M ⟨t1, l1, s1, rd, x1⟩; rw [hd] at this; exact this.trans HS'.out.len
        have hst' : M'.st = N0 ∨ M'.st = N0 + 1 := by have := tkTake_st ⟨2, 2, 4, 0, 2⟩ M ⟨t1, l1, s1, rd, x1⟩ (by omega) (by omega); rw [hd, hN0] at this; exact this
        obtain ⟨t', l', s', r', x'⟩ := h'
        have HM := Lib.hid (show sizeP ⟨2, 2, 4, 0, 2⟩ = (M.L.length : Int) by rw [HS'.out.len, m8_size]; rfl)
        have HD := Lib.hid hd; have HN0 := Lib.hid hN0; have HL' := Lib.hid hl'; have HST' := Lib.hid hst'
        clear hd hN0 hl' hst' hst0 hst1
        go_upto_region 15 with (go_at_call 26; refine (steps_any a v M _ HS'.out.tw.s.m).mono ?_; rw [HN0.out]; rintro e w3 ⟨rfl, rfl⟩)
        go_cut [15, 16] (fun p1 p2 wx => ∃ g1 g2 : Nat, p1 = .pointer (some ⟨g1, 0, none⟩) ∧ p2 = .pointer (some ⟨g2, 0, none⟩) ∧ TkT w wx B H Wb a c v u M' M' w0 w1 w2 t1 l1 s1 rd x1 g1 g2 t' l' s' r' x')
        case first =>
          have hS := HS'.out.no ((Keeps.refl NoS _).drew)
          refine wp_region_held_drew (S := (fun w' => (w'.cell? ⟨B, 0, none⟩ = some (.int .i64 2) ∧ w'.cell? ⟨B, 1, none⟩ = some (.int .i64 2) ∧ w'.cell? ⟨B, 2, none⟩ = some (.int .i64 4) ∧ w'.cell? ⟨B, 3, none⟩ = some (.int .i64 0) ∧ w'.cell? ⟨B, 4, none⟩ = some (.int .i64 2)) ∧ (w'.cell? ⟨H, 0, none⟩ = some (.int .i64 t1) ∧ w'.cell? ⟨H, 1, none⟩ = some (.int .i64 l1) ∧ w'.cell? ⟨H, 2, none⟩ = some (.int .i64 s1) ∧ w'.cell? ⟨H, 3, none⟩ = some (.bool rd) ∧ w'.cell? ⟨H, 4, none⟩ = some (.int .i64 x1)))) (by kernel_rfl) (hS.cells) (fun hHeld => ?_)
          generalize wr.drew = wq at *
          apply wpAnyH_dag2 (R := (fun (g1 : Nat) (g2 : Nat) (wq : World) => (TkS w wq B H Wb a c v u M' M' w0 w1 w2 t1 l1 s1 rd x1) ∧ (HandAt wq 32 g1 t' l' s' r' x') ∧ (HandAt wq 32 g2 t' l' s' r' x') ∧ (Fr w B H Wb a c v u g1) ∧ (Fr w B H Wb a c v u g2) ∧ (g1 ≠ g2)))
          · intro hD0
            apply wpAnyH_dag2 (R := (fun (g1 : Nat) (g2 : Nat) (wq : World) => (TkS w wq B H Wb a c v u M' M' w0 w1 w2 t1 l1 s1 rd x1) ∧ (HandAt wq 32 g1 t' l' s' r' x') ∧ (HandAt wq 32 g2 0 0 0 false 0) ∧ (Fr w B H Wb a c v u g1) ∧ (Fr w B H Wb a c v u g2) ∧ (g1 ≠ g2)))
            · intro hD1
              apply wpAnyH_dag2 (R := (fun (g1 : Nat) (g2 : Nat) (wq : World) => (TkS w wq B H Wb a c v u M' M' w0 w1 w2 t1 l1 s1 rd x1) ∧ (HandAt wq 32 g1 0 0 0 false 0) ∧ (HandAt wq 32 g2 0 0 0 false 0) ∧ (Fr w B H Wb a c v u g1) ∧ (Fr w B H Wb a c v u g2) ∧ (g1 ≠ g2)))
              · intro hD2
                apply wpAnyH_dag1 (R := (fun (g1 : Nat) (wq : World) => (TkS w wq B H Wb a c v u M' M' w0 w1 w2 t1 l1 s1 rd x1) ∧ (HandAt wq 32 g1 0 0 0 false 0) ∧ (Fr w B H Wb a c v u g1)))
                · intro hD3
                  apply wpAnyH_dag1 (R := (fun (g2 : Nat) (wq : World) => (TkS w wq B H Wb a c v u M' M' w0 w1 w2 t1 l1 s1 rd x1) ∧ (HandAt wq 32 g2 0 0 0 false 0) ∧ (Fr w B H Wb a c v u g2)))
                  · intro hD4
                    apply wpAnyH_dag0 (R := (fun (wq : World) => (TkS w wq B H Wb a c v u M' M' w0 w1 w2 t1 l1 s1 rd x1)))
                    · intro hD5
                      apply wpAnyH_dag2 (R := (fun (g1 : Nat) (g2 : Nat) (wq : World) => (TkS w wq B H Wb a c v u M' M w0 w1 w2 t1 l1 s1 rd x1) ∧ (HandAt wq 32 g1 0 0 0 false 0) ∧ (HandAt wq 32 g2 0 0 0 false 0) ∧ (Fr w B H Wb a c v u g1) ∧ (Fr w B H Wb a c v u g2) ∧ (g1 ≠ g2)))
                      · intro hD6
                        apply wpAnyH_dag1 (R := (fun (g1 : Nat) (wq : World) => (TkS w wq B H Wb a c v u M' M w0 w1 w2 t1 l1 s1 rd x1) ∧ (HandAt wq 32 g1 0 0 0 false 0) ∧ (Fr w B H Wb a c v u g1)))
                        · intro hD7
                          apply wpAnyH_dag1 (R := (fun (g2 : Nat) (wq : World) => (TkS w wq B H Wb a c v u M' M w0 w1 w2 t1 l1 s1 rd x1) ∧ (HandAt wq 32 g2 0 0 0 false 0) ∧ (Fr w B H Wb a c v u g2)))
                          · intro hD8
                            apply wpAnyH_dag0 (R := (fun (wq : World) => (TkS w wq B H Wb a c v u M' M w0 w1 w2 t1 l1 s1 rd x1)))
                            · intro hD9
                              apply wpAnyH_dag2 (R := (fun (g1 : Nat) (g2 : Nat) (wq : World) => (TkS w wq B H Wb a c v u M' M w0 w1 w2 t1 l1 s1 rd x1) ∧ (HandAt wq 32 g1 0 0 0 false 0) ∧ (HandAt wq 32 g2 0 0 0 false 0) ∧ (Fr w B H Wb a c v u g1) ∧ (Fr w B H Wb a c v u g2) ∧ (g1 ≠ g2)))
                              · intro hD10
                                apply wpAnyH_dag1 (R := (fun (g1 : Nat) (wq : World) => (TkS w wq B H Wb a c v u M' M w0 w1 w2 t1 l1 s1 rd x1) ∧ (HandAt wq 32 g1 0 0 0 false 0) ∧ (Fr w B H Wb a c v u g1)))
                                · intro hD11
                                  apply wpAnyH_dag1 (R := (fun (g2 : Nat) (wq : World) => (TkS w wq B H Wb a c v u M' M w0 w1 w2 t1 l1 s1 rd x1) ∧ (HandAt wq 32 g2 0 0 0 false 0) ∧ (Fr w B H Wb a c v u g2)))
                                  · intro hD12
                                    apply wpAnyH_dag0 (R := (fun (wq : World) => (TkS w wq B H Wb a c v u M' M w0 w1 w2 t1 l1 s1 rd x1)))
                                    · intro hD13
                                      apply wpAnyH_dag2 (R := (fun (g1 : Nat) (g2 : Nat) (wq : World) => (TkS w wq B H Wb a c v u M M w0 w1 w2 t1 l1 s1 rd x1) ∧ (HandAt wq 32 g1 0 0 0 false 0) ∧ (HandAt wq 32 g2 0 0 0 false 0) ∧ (Fr w B H Wb a c v u g1) ∧ (Fr w B H Wb a c v u g2) ∧ (g1 ≠ g2)))
                                      · intro hD14
                                        apply wpAnyH_dag1 (R := (fun (g1 : Nat) (wq : World) => (TkS w wq B H Wb a c v u M M w0 w1 w2 t1 l1 s1 rd x1) ∧ (HandAt wq 32 g1 0 0 0 false 0) ∧ (Fr w B H Wb a c v u g1)))
                                        · intro hD15
                                          apply wpAnyH_dag1 (R := (fun (g2 : Nat) (wq : World) => (TkS w wq B H Wb a c v u M M w0 w1 w2 t1 l1 s1 rd x1) ∧ (HandAt wq 32 g2 0 0 0 false 0) ∧ (Fr w B H Wb a c v u g2)))
                                          · intro hD16
                                            refine wpAnyH_take (i := 0) (v := ?_) (by simp only [List.getElem?_toArray, List.getElem?_cons_succ, List.getElem?_cons_zero]; rfl) (by kernel_rfl) (by kernel_rfl) (by kernel_rfl) (by exact fun _ _ _ h => h) (Or.inl ⟨by rfl, ?_⟩) hHeld ?_
                                            rotate_left
                                            · intro w hSw; (try dsimp only at hSw); go_simp; (try with_reducible rfl)
                                            try simp only [Act.put, List.setIfInBounds_toArray, List.set_cons_zero, List.set_cons_succ]
                                            refine wpAnyH_take (i := 1) (v := ?_) (by simp only [List.getElem?_toArray, List.getElem?_cons_succ, List.getElem?_cons_zero]; rfl) (by kernel_rfl) (by kernel_rfl) (by kernel_rfl) (by exact fun _ _ _ h => h) (Or.inl ⟨by rfl, ?_⟩) hHeld ?_
                                            rotate_left
                                            · intro w hSw; (try dsimp only at hSw); go_simp; (try with_reducible rfl)
                                            try simp only [Act.put, List.setIfInBounds_toArray, List.set_cons_zero, List.set_cons_succ]
                                            refine wpAnyH_take (i := 2) (v := ?_) (by simp only [List.getElem?_toArray, List.getElem?_cons_succ, List.getElem?_cons_zero]; rfl) (by kernel_rfl) (by kernel_rfl) (by kernel_rfl) (by exact fun _ _ _ h => h) (Or.inl ⟨by rfl, ?_⟩) hHeld ?_
                                            rotate_left
                                            · intro w hSw; (try dsimp only at hSw); go_simp; (try with_reducible rfl)
                                            try simp only [Act.put, List.setIfInBounds_toArray, List.set_cons_zero, List.set_cons_succ]
                                            refine wpAnyH_take (i := 4) (v := ?_) (by simp only [List.getElem?_toArray, List.getElem?_cons_succ, List.getElem?_cons_zero]; rfl) (by kernel_rfl) (by kernel_rfl) (by kernel_rfl) (by exact fun _ _ _ h => h) (Or.inl ⟨by rfl, ?_⟩) hHeld ?_
                                            rotate_left
                                            · intro w hSw; (try dsimp only at hSw); go_simp; (try with_reducible rfl)
                                            try simp only [Act.put, List.setIfInBounds_toArray, List.set_cons_zero, List.set_cons_succ]
                                            refine wpAnyH_take (i := 6) (v := ?_) (by simp only [List.getElem?_toArray, List.getElem?_cons_succ, List.getElem?_cons_zero]; rfl) (by kernel_rfl) (by kernel_rfl) (by kernel_rfl) (by exact fun _ _ _ h => h) (Or.inl ⟨by rfl, ?_⟩) hHeld ?_
                                            rotate_left
                                            · intro w hSw; (try dsimp only at hSw); go_simp; (try with_reducible rfl)
                                            try simp only [Act.put, List.setIfInBounds_toArray, List.set_cons_zero, List.set_cons_succ]
                                            refine wpAnyH_take (i := 7) (v := ?_) (by simp only [List.getElem?_toArray, List.getElem?_cons_succ, List.getElem?_cons_zero]; rfl) (by kernel_rfl) (by kernel_rfl) (by kernel_rfl) (by exact fun _ _ _ h => h) (Or.inl ⟨by rfl, ?_⟩) hHeld ?_
                                            rotate_left
                                            · intro w hSw; (try dsimp only at hSw); go_simp; (try with_reducible rfl)
                                            try simp only [Act.put, List.setIfInBounds_toArray, List.set_cons_zero, List.set_cons_succ]
                                            refine wpAnyH_ready (rs := [3, 9, 10]) (by kernel_rfl) (by simp) ?_
                                            refine AllReadyH.cons (by simp only [List.getElem?_toArray, List.getElem?_cons_succ, List.getElem?_cons_zero]; rfl) (fun kC hkC => ?_) (AllReadyH.cons (by simp only [List.getElem?_toArray, List.getElem?_cons_succ, List.getElem?_cons_zero]; rfl) (fun kC hkC => ?_) (AllReadyH.cons (by simp only [List.getElem?_toArray, List.getElem?_cons_succ, List.getElem?_cons_zero]; rfl) (fun kC hkC => ?_) AllReadyH.nil))
                                            -- operation 3 of state 17
                                            · go_simp
                                              refine (take_any 2 2 4 0 2 t1 l1 s1 rd x1 a v M _ hS.tw.s.m).mono ?_; rw [HD.out]; unfold handV; dsimp only; rintro e3 wq ⟨rfl, hm, hkk⟩; have hS := hS.turnS hm hkk HL'.out; (try have p1 := p1.keep hkk f1.na); (try have p2 := p2.keep hkk f2.na); clear hm hkk; (try go_wp2_with fail)
                                              refine hkC.out _ _ ?_ (fun hHeld => ?_)
                                              · exact (hS.cells)
                                              clear hkC kC
                                              try simp only [Act.put, List.setIfInBounds_toArray, List.set_cons_zero, List.set_cons_succ]
                                              exact hD13  _ hS
                                            -- operation 9 of state 17
                                            · go_simp
                                              have f1 := hS.fresh; (try have ne12 : wq.heap.size ≠ g2 := fun e => by (have := blk_lt p2; omega)); have p1 := handAt_new wq 32 0 0 0 false 0; have hS := hS.no ((Keeps.refl NoS wq).alloc (.cells #[.int .i64 0, .int .i64 0, .int .i64 0, .bool false, .int .i64 0] 32)); (try have p2 := p2.keep ((Keeps.refl NoS wq).alloc (.cells #[.int .i64 0, .int .i64 0, .int .i64 0, .bool false, .int .i64 0] 32)) (fun f => f)); obtain ⟨g1, hg1⟩ : ∃ g, wq.heap.size = g := ⟨_, rfl⟩; (try rw [hg1] at ne12); rw [hg1] at f1 p1 ⊢; clear hg1; generalize wq.alloc (.cells #[.int .i64 0, .int .i64 0, .int .i64 0, .bool false, .int .i64 0] 32) = wq at *
                                              refine hkC.out _ _ ?_ (fun hHeld => ?_)
                                              · exact (hS.cells)
                                              clear hkC kC
                                              try simp only [Act.put, List.setIfInBounds_toArray, List.set_cons_zero, List.set_cons_succ]
                                              exact hD15 g1 _ ⟨hS, p1, f1⟩
                                            -- operation 10 of state 17
                                            · go_simp
                                              have f2 := hS.fresh; (try have ne12 : g1 ≠ wq.heap.size := fun e => by (have := blk_lt p1; omega)); have p2 := handAt_new wq 32 0 0 0 false 0; have hS := hS.no ((Keeps.refl NoS wq).alloc (.cells #[.int .i64 0, .int .i64 0, .int .i64 0, .bool false, .int .i64 0] 32)); (try have p1 := p1.keep ((Keeps.refl NoS wq).alloc (.cells #[.int .i64 0, .int .i64 0, .int .i64 0, .bool false, .int .i64 0] 32)) (fun f => f)); obtain ⟨g2, hg2⟩ : ∃ g, wq.heap.size = g := ⟨_, rfl⟩; (try rw [hg2] at ne12); rw [hg2] at f2 p2 ⊢; clear hg2; generalize wq.alloc (.cells #[.int .i64 0, .int .i64 0, .int .i64 0, .bool false, .int .i64 0] 32) = wq at *
                                              refine hkC.out _ _ ?_ (fun hHeld => ?_)
                                              · exact (hS.cells)
                                              clear hkC kC
                                              try simp only [Act.put, List.setIfInBounds_toArray, List.set_cons_zero, List.set_cons_succ]
                                              exact hD16 g2 _ ⟨hS, p2, f2⟩
                                          · intro g2 wq hR
                                            obtain ⟨hS, p2, f2⟩ := hR
                                            have hHeld : (fun w' => (w'.cell? ⟨B, 0, none⟩ = some (.int .i64 2) ∧ w'.cell? ⟨B, 1, none⟩ = some (.int .i64 2) ∧ w'.cell? ⟨B, 2, none⟩ = some (.int .i64 4) ∧ w'.cell? ⟨B, 3, none⟩ = some (.int .i64 0) ∧ w'.cell? ⟨B, 4, none⟩ = some (.int .i64 2)) ∧ (w'.cell? ⟨H, 0, none⟩ = some (.int .i64 t1) ∧ w'.cell? ⟨H, 1, none⟩ = some (.int .i64 l1) ∧ w'.cell? ⟨H, 2, none⟩ = some (.int .i64 s1) ∧ w'.cell? ⟨H, 3, none⟩ = some (.bool rd) ∧ w'.cell? ⟨H, 4, none⟩ = some (.int .i64 x1))) wq := hS.cells
                                            refine wpAnyH_ready (rs := [3, 9]) (by kernel_rfl) (by simp) ?_
                                            refine AllReadyH.cons (by simp only [List.getElem?_toArray, List.getElem?_cons_succ, List.getElem?_cons_zero]; rfl) (fun kC hkC => ?_) (AllReadyH.cons (by simp only [List.getElem?_toArray, List.getElem?_cons_succ, List.getElem?_cons_zero]; rfl) (fun kC hkC => ?_) AllReadyH.nil)
                                            -- operation 3 of state 16
                                            · go_simp
                                              refine (take_any 2 2 4 0 2 t1 l1 s1 rd x1 a v M _ hS.tw.s.m).mono ?_; rw [HD.out]; unfold handV; dsimp only; rintro e3 wq ⟨rfl, hm, hkk⟩; have hS := hS.turnS hm hkk HL'.out; (try have p1 := p1.keep hkk f1.na); (try have p2 := p2.keep hkk f2.na); clear hm hkk; (try go_wp2_with fail)
                                              refine hkC.out _ _ ?_ (fun hHeld => ?_)
                                              · exact (hS.cells)
                                              clear hkC kC
                                              try simp only [Act.put, List.setIfInBounds_toArray, List.set_cons_zero, List.set_cons_succ]
                                              exact hD12 g2 _ ⟨hS, p2, f2⟩
                                            -- operation 9 of state 16
                                            · go_simp
                                              have f1 := hS.fresh; (try have ne12 : wq.heap.size ≠ g2 := fun e => by (have := blk_lt p2; omega)); have p1 := handAt_new wq 32 0 0 0 false 0; have hS := hS.no ((Keeps.refl NoS wq).alloc (.cells #[.int .i64 0, .int .i64 0, .int .i64 0, .bool false, .int .i64 0] 32)); (try have p2 := p2.keep ((Keeps.refl NoS wq).alloc (.cells #[.int .i64 0, .int .i64 0, .int .i64 0, .bool false, .int .i64 0] 32)) (fun f => f)); obtain ⟨g1, hg1⟩ : ∃ g, wq.heap.size = g := ⟨_, rfl⟩; (try rw [hg1] at ne12); rw [hg1] at f1 p1 ⊢; clear hg1; generalize wq.alloc (.cells #[.int .i64 0, .int .i64 0, .int .i64 0, .bool false, .int .i64 0] 32) = wq at *
                                              refine hkC.out _ _ ?_ (fun hHeld => ?_)
                                              · exact (hS.cells)
                                              clear hkC kC
                                              try simp only [Act.put, List.setIfInBounds_toArray, List.set_cons_zero, List.set_cons_succ]
                                              exact hD14 g1 g2 _ ⟨hS, p1, p2, f1, f2, ne12⟩
                                        · intro g1 wq hR
                                          obtain ⟨hS, p1, f1⟩ := hR
                                          have hHeld : (fun w' => (w'.cell? ⟨B, 0, none⟩ = some (.int .i64 2) ∧ w'.cell? ⟨B, 1, none⟩ = some (.int .i64 2) ∧ w'.cell? ⟨B, 2, none⟩ = some (.int .i64 4) ∧ w'.cell? ⟨B, 3, none⟩ = some (.int .i64 0) ∧ w'.cell? ⟨B, 4, none⟩ = some (.int .i64 2)) ∧ (w'.cell? ⟨H, 0, none⟩ = some (.int .i64 t1) ∧ w'.cell? ⟨H, 1, none⟩ = some (.int .i64 l1) ∧ w'.cell? ⟨H, 2, none⟩ = some (.int .i64 s1) ∧ w'.cell? ⟨H, 3, none⟩ = some (.bool rd) ∧ w'.cell? ⟨H, 4, none⟩ = some (.int .i64 x1))) wq := hS.cells
                                          refine wpAnyH_ready (rs := [3, 10]) (by kernel_rfl) (by simp) ?_
                                          refine AllReadyH.cons (by simp only [List.getElem?_toArray, List.getElem?_cons_succ, List.getElem?_cons_zero]; rfl) (fun kC hkC => ?_) (AllReadyH.cons (by simp only [List.getElem?_toArray, List.getElem?_cons_succ, List.getElem?_cons_zero]; rfl) (fun kC hkC => ?_) AllReadyH.nil)
                                          -- operation 3 of state 15
                                          · go_simp
                                            refine (take_any 2 2 4 0 2 t1 l1 s1 rd x1 a v M _ hS.tw.s.m).mono ?_; rw [HD.out]; unfold handV; dsimp only; rintro e3 wq ⟨rfl, hm, hkk⟩; have hS := hS.turnS hm hkk HL'.out; (try have p1 := p1.keep hkk f1.na); (try have p2 := p2.keep hkk f2.na); clear hm hkk; (try go_wp2_with fail)
                                            refine hkC.out _ _ ?_ (fun hHeld => ?_)
                                            · exact (hS.cells)
                                            clear hkC kC
                                            try simp only [Act.put, List.setIfInBounds_toArray, List.set_cons_zero, List.set_cons_succ]
                                            exact hD11 g1 _ ⟨hS, p1, f1⟩
                                          -- operation 10 of state 15
                                          · go_simp
                                            have f2 := hS.fresh; (try have ne12 : g1 ≠ wq.heap.size := fun e => by (have := blk_lt p1; omega)); have p2 := handAt_new wq 32 0 0 0 false 0; have hS := hS.no ((Keeps.refl NoS wq).alloc (.cells #[.int .i64 0, .int .i64 0, .int .i64 0, .bool false, .int .i64 0] 32)); (try have p1 := p1.keep ((Keeps.refl NoS wq).alloc (.cells #[.int .i64 0, .int .i64 0, .int .i64 0, .bool false, .int .i64 0] 32)) (fun f => f)); obtain ⟨g2, hg2⟩ : ∃ g, wq.heap.size = g := ⟨_, rfl⟩; (try rw [hg2] at ne12); rw [hg2] at f2 p2 ⊢; clear hg2; generalize wq.alloc (.cells #[.int .i64 0, .int .i64 0, .int .i64 0, .bool false, .int .i64 0] 32) = wq at *
                                            refine hkC.out _ _ ?_ (fun hHeld => ?_)
                                            · exact (hS.cells)
                                            clear hkC kC
                                            try simp only [Act.put, List.setIfInBounds_toArray, List.set_cons_zero, List.set_cons_succ]
                                            exact hD14 g1 g2 _ ⟨hS, p1, p2, f1, f2, ne12⟩
                                      · intro g1 g2 wq hR
                                        obtain ⟨hS, p1, p2, f1, f2, ne12⟩ := hR
                                        have hHeld : (fun w' => (w'.cell? ⟨B, 0, none⟩ = some (.int .i64 2) ∧ w'.cell? ⟨B, 1, none⟩ = some (.int .i64 2) ∧ w'.cell? ⟨B, 2, none⟩ = some (.int .i64 4) ∧ w'.cell? ⟨B, 3, none⟩ = some (.int .i64 0) ∧ w'.cell? ⟨B, 4, none⟩ = some (.int .i64 2)) ∧ (w'.cell? ⟨H, 0, none⟩ = some (.int .i64 t1) ∧ w'.cell? ⟨H, 1, none⟩ = some (.int .i64 l1) ∧ w'.cell? ⟨H, 2, none⟩ = some (.int .i64 s1) ∧ w'.cell? ⟨H, 3, none⟩ = some (.bool rd) ∧ w'.cell? ⟨H, 4, none⟩ = some (.int .i64 x1))) wq := hS.cells
                                        refine wpAnyH_ready (rs := [3]) (by kernel_rfl) (by simp) ?_
                                        refine AllReadyH.cons (by simp only [List.getElem?_toArray, List.getElem?_cons_succ, List.getElem?_cons_zero]; rfl) (fun kC hkC => ?_) AllReadyH.nil
                                        -- operation 3 of state 14
                                        · go_simp
                                          refine (take_any 2 2 4 0 2 t1 l1 s1 rd x1 a v M _ hS.tw.s.m).mono ?_; rw [HD.out]; unfold handV; dsimp only; rintro e3 wq ⟨rfl, hm, hkk⟩; have hS := hS.turnS hm hkk HL'.out; (try have p1 := p1.keep hkk f1.na); (try have p2 := p2.keep hkk f2.na); clear hm hkk; (try go_wp2_with fail)
                                          refine hkC.out _ _ ?_ (fun hHeld => ?_)
                                          · exact (hS.cells)
                                          clear hkC kC
                                          try simp only [Act.put, List.setIfInBounds_toArray, List.set_cons_zero, List.set_cons_succ]
                                          exact hD10 g1 g2 _ ⟨hS, p1, p2, f1, f2, ne12⟩
                                    · intro wq hR
                                      have hS := hR
                                      have hHeld : (fun w' => (w'.cell? ⟨B, 0, none⟩ = some (.int .i64 2) ∧ w'.cell? ⟨B, 1, none⟩ = some (.int .i64 2) ∧ w'.cell? ⟨B, 2, none⟩ = some (.int .i64 4) ∧ w'.cell? ⟨B, 3, none⟩ = some (.int .i64 0) ∧ w'.cell? ⟨B, 4, none⟩ = some (.int .i64 2)) ∧ (w'.cell? ⟨H, 0, none⟩ = some (.int .i64 t1) ∧ w'.cell? ⟨H, 1, none⟩ = some (.int .i64 l1) ∧ w'.cell? ⟨H, 2, none⟩ = some (.int .i64 s1) ∧ w'.cell? ⟨H, 3, none⟩ = some (.bool rd) ∧ w'.cell? ⟨H, 4, none⟩ = some (.int .i64 x1))) wq := hS.cells
                                      refine wpAnyH_ready (rs := [5, 9, 10]) (by kernel_rfl) (by simp) ?_
                                      refine AllReadyH.cons (by simp only [List.getElem?_toArray, List.getElem?_cons_succ, List.getElem?_cons_zero]; rfl) (fun kC hkC => ?_) (AllReadyH.cons (by simp only [List.getElem?_toArray, List.getElem?_cons_succ, List.getElem?_cons_zero]; rfl) (fun kC hkC => ?_) (AllReadyH.cons (by simp only [List.getElem?_toArray, List.getElem?_cons_succ, List.getElem?_cons_zero]; rfl) (fun kC hkC => ?_) AllReadyH.nil))
                                      -- operation 5 of state 13
                                      · go_simp
                                        refine (ref_any ⟨2, 2, 4, 0, 2⟩ _).mono ?_; rintro e5 wq ⟨rfl, hkk⟩; have hS := hS.no hkk; (try have p1 := p1.keep hkk (fun f => f)); (try have p2 := p2.keep hkk (fun f => f)); clear hkk; unfold mapV; dsimp only; (try go_wp2_with fail)
                                        refine hkC.out _ _ ?_ (fun hHeld => ?_)
                                        · exact (hS.cells)
                                        clear hkC kC
                                        try simp only [Act.put, List.setIfInBounds_toArray, List.set_cons_zero, List.set_cons_succ]
                                        exact hD9  _ hS
                                      -- operation 9 of state 13
                                      · go_simp
                                        have f1 := hS.fresh; (try have ne12 : wq.heap.size ≠ g2 := fun e => by (have := blk_lt p2; omega)); have p1 := handAt_new wq 32 0 0 0 false 0; have hS := hS.no ((Keeps.refl NoS wq).alloc (.cells #[.int .i64 0, .int .i64 0, .int .i64 0, .bool false, .int .i64 0] 32)); (try have p2 := p2.keep ((Keeps.refl NoS wq).alloc (.cells #[.int .i64 0, .int .i64 0, .int .i64 0, .bool false, .int .i64 0] 32)) (fun f => f)); obtain ⟨g1, hg1⟩ : ∃ g, wq.heap.size = g := ⟨_, rfl⟩; (try rw [hg1] at ne12); rw [hg1] at f1 p1 ⊢; clear hg1; generalize wq.alloc (.cells #[.int .i64 0, .int .i64 0, .int .i64 0, .bool false, .int .i64 0] 32) = wq at *
                                        refine hkC.out _ _ ?_ (fun hHeld => ?_)
                                        · exact (hS.cells)
                                        clear hkC kC
                                        try simp only [Act.put, List.setIfInBounds_toArray, List.set_cons_zero, List.set_cons_succ]
                                        exact hD11 g1 _ ⟨hS, p1, f1⟩
                                      -- operation 10 of state 13
                                      · go_simp
                                        have f2 := hS.fresh; (try have ne12 : g1 ≠ wq.heap.size := fun e => by (have := blk_lt p1; omega)); have p2 := handAt_new wq 32 0 0 0 false 0; have hS := hS.no ((Keeps.refl NoS wq).alloc (.cells #[.int .i64 0, .int .i64 0, .int .i64 0, .bool false, .int .i64 0] 32)); (try have p1 := p1.keep ((Keeps.refl NoS wq).alloc (.cells #[.int .i64 0, .int .i64 0, .int .i64 0, .bool false, .int .i64 0] 32)) (fun f => f)); obtain ⟨g2, hg2⟩ : ∃ g, wq.heap.size = g := ⟨_, rfl⟩; (try rw [hg2] at ne12); rw [hg2] at f2 p2 ⊢; clear hg2; generalize wq.alloc (.cells #[.int .i64 0, .int .i64 0, .int .i64 0, .bool false, .int .i64 0] 32) = wq at *
                                        refine hkC.out _ _ ?_ (fun hHeld => ?_)
                                        · exact (hS.cells)
                                        clear hkC kC
                                        try simp only [Act.put, List.setIfInBounds_toArray, List.set_cons_zero, List.set_cons_succ]
                                        exact hD12 g2 _ ⟨hS, p2, f2⟩
                                  · intro g2 wq hR
                                    obtain ⟨hS, p2, f2⟩ := hR
                                    have hHeld : (fun w' => (w'.cell? ⟨B, 0, none⟩ = some (.int .i64 2) ∧ w'.cell? ⟨B, 1, none⟩ = some (.int .i64 2) ∧ w'.cell? ⟨B, 2, none⟩ = some (.int .i64 4) ∧ w'.cell? ⟨B, 3, none⟩ = some (.int .i64 0) ∧ w'.cell? ⟨B, 4, none⟩ = some (.int .i64 2)) ∧ (w'.cell? ⟨H, 0, none⟩ = some (.int .i64 t1) ∧ w'.cell? ⟨H, 1, none⟩ = some (.int .i64 l1) ∧ w'.cell? ⟨H, 2, none⟩ = some (.int .i64 s1) ∧ w'.cell? ⟨H, 3, none⟩ = some (.bool rd) ∧ w'.cell? ⟨H, 4, none⟩ = some (.int .i64 x1))) wq := hS.cells
                                    refine wpAnyH_ready (rs := [5, 9]) (by kernel_rfl) (by simp) ?_
                                    refine AllReadyH.cons (by simp only [List.getElem?_toArray, List.getElem?_cons_succ, List.getElem?_cons_zero]; rfl) (fun kC hkC => ?_) (AllReadyH.cons (by simp only [List.getElem?_toArray, List.getElem?_cons_succ, List.getElem?_cons_zero]; rfl) (fun kC hkC => ?_) AllReadyH.nil)
                                    -- operation 5 of state 12
                                    · go_simp
                                      refine (ref_any ⟨2, 2, 4, 0, 2⟩ _).mono ?_; rintro e5 wq ⟨rfl, hkk⟩; have hS := hS.no hkk; (try have p1 := p1.keep hkk (fun f => f)); (try have p2 := p2.keep hkk (fun f => f)); clear hkk; unfold mapV; dsimp only; (try go_wp2_with fail)
                                      refine hkC.out _ _ ?_ (fun hHeld => ?_)
                                      · exact (hS.cells)
                                      clear hkC kC
                                      try simp only [Act.put, List.setIfInBounds_toArray, List.set_cons_zero, List.set_cons_succ]
                                      exact hD8 g2 _ ⟨hS, p2, f2⟩
                                    -- operation 9 of state 12
                                    · go_simp
                                      have f1 := hS.fresh; (try have ne12 : wq.heap.size ≠ g2 := fun e => by (have := blk_lt p2; omega)); have p1 := handAt_new wq 32 0 0 0 false 0; have hS := hS.no ((Keeps.refl NoS wq).alloc (.cells #[.int .i64 0, .int .i64 0, .int .i64 0, .bool false, .int .i64 0] 32)); (try have p2 := p2.keep ((Keeps.refl NoS wq).alloc (.cells #[.int .i64 0, .int .i64 0, .int .i64 0, .bool false, .int .i64 0] 32)) (fun f => f)); obtain ⟨g1, hg1⟩ : ∃ g, wq.heap.size = g := ⟨_, rfl⟩; (try rw [hg1] at ne12); rw [hg1] at f1 p1 ⊢; clear hg1; generalize wq.alloc (.cells #[.int .i64 0, .int .i64 0, .int .i64 0, .bool false, .int .i64 0] 32) = wq at *
                                      refine hkC.out _ _ ?_ (fun hHeld => ?_)
                                      · exact (hS.cells)
                                      clear hkC kC
                                      try simp only [Act.put, List.setIfInBounds_toArray, List.set_cons_zero, List.set_cons_succ]
                                      exact hD10 g1 g2 _ ⟨hS, p1, p2, f1, f2, ne12⟩
                                · intro g1 wq hR
                                  obtain ⟨hS, p1, f1⟩ := hR
                                  have hHeld : (fun w' => (w'.cell? ⟨B, 0, none⟩ = some (.int .i64 2) ∧ w'.cell? ⟨B, 1, none⟩ = some (.int .i64 2) ∧ w'.cell? ⟨B, 2, none⟩ = some (.int .i64 4) ∧ w'.cell? ⟨B, 3, none⟩ = some (.int .i64 0) ∧ w'.cell? ⟨B, 4, none⟩ = some (.int .i64 2)) ∧ (w'.cell? ⟨H, 0, none⟩ = some (.int .i64 t1) ∧ w'.cell? ⟨H, 1, none⟩ = some (.int .i64 l1) ∧ w'.cell? ⟨H, 2, none⟩ = some (.int .i64 s1) ∧ w'.cell? ⟨H, 3, none⟩ = some (.bool rd) ∧ w'.cell? ⟨H, 4, none⟩ = some (.int .i64 x1))) wq := hS.cells
                                  refine wpAnyH_ready (rs := [5, 10]) (by kernel_rfl) (by simp) ?_
                                  refine AllReadyH.cons (by simp only [List.getElem?_toArray, List.getElem?_cons_succ, List.getElem?_cons_zero]; rfl) (fun kC hkC => ?_) (AllReadyH.cons (by simp only [List.getElem?_toArray, List.getElem?_cons_succ, List.getElem?_cons_zero]; rfl) (fun kC hkC => ?_) AllReadyH.nil)
                                  -- operation 5 of state 11
                                  · go_simp
                                    refine (ref_any ⟨2, 2, 4, 0, 2⟩ _).mono ?_; rintro e5 wq ⟨rfl, hkk⟩; have hS := hS.no hkk; (try have p1 := p1.keep hkk (fun f => f)); (try have p2 := p2.keep hkk (fun f => f)); clear hkk; unfold mapV; dsimp only; (try go_wp2_with fail)
                                    refine hkC.out _ _ ?_ (fun hHeld => ?_)
                                    · exact (hS.cells)
                                    clear hkC kC
                                    try simp only [Act.put, List.setIfInBounds_toArray, List.set_cons_zero, List.set_cons_succ]
                                    exact hD7 g1 _ ⟨hS, p1, f1⟩
                                  -- operation 10 of state 11
                                  · go_simp
                                    have f2 := hS.fresh; (try have ne12 : g1 ≠ wq.heap.size := fun e => by (have := blk_lt p1; omega)); have p2 := handAt_new wq 32 0 0 0 false 0; have hS := hS.no ((Keeps.refl NoS wq).alloc (.cells #[.int .i64 0, .int .i64 0, .int .i64 0, .bool false, .int .i64 0] 32)); (try have p1 := p1.keep ((Keeps.refl NoS wq).alloc (.cells #[.int .i64 0, .int .i64 0, .int .i64 0, .bool false, .int .i64 0] 32)) (fun f => f)); obtain ⟨g2, hg2⟩ : ∃ g, wq.heap.size = g := ⟨_, rfl⟩; (try rw [hg2] at ne12); rw [hg2] at f2 p2 ⊢; clear hg2; generalize wq.alloc (.cells #[.int .i64 0, .int .i64 0, .int .i64 0, .bool false, .int .i64 0] 32) = wq at *
                                    refine hkC.out _ _ ?_ (fun hHeld => ?_)
                                    · exact (hS.cells)
                                    clear hkC kC
                                    try simp only [Act.put, List.setIfInBounds_toArray, List.set_cons_zero, List.set_cons_succ]
                                    exact hD10 g1 g2 _ ⟨hS, p1, p2, f1, f2, ne12⟩
                              · intro g1 g2 wq hR
                                obtain ⟨hS, p1, p2, f1, f2, ne12⟩ := hR
                                have hHeld : (fun w' => (w'.cell? ⟨B, 0, none⟩ = some (.int .i64 2) ∧ w'.cell? ⟨B, 1, none⟩ = some (.int .i64 2) ∧ w'.cell? ⟨B, 2, none⟩ = some (.int .i64 4) ∧ w'.cell? ⟨B, 3, none⟩ = some (.int .i64 0) ∧ w'.cell? ⟨B, 4, none⟩ = some (.int .i64 2)) ∧ (w'.cell? ⟨H, 0, none⟩ = some (.int .i64 t1) ∧ w'.cell? ⟨H, 1, none⟩ = some (.int .i64 l1) ∧ w'.cell? ⟨H, 2, none⟩ = some (.int .i64 s1) ∧ w'.cell? ⟨H, 3, none⟩ = some (.bool rd) ∧ w'.cell? ⟨H, 4, none⟩ = some (.int .i64 x1))) wq := hS.cells
                                refine wpAnyH_ready (rs := [5]) (by kernel_rfl) (by simp) ?_
                                refine AllReadyH.cons (by simp only [List.getElem?_toArray, List.getElem?_cons_succ, List.getElem?_cons_zero]; rfl) (fun kC hkC => ?_) AllReadyH.nil
                                -- operation 5 of state 10
                                · go_simp
                                  refine (ref_any ⟨2, 2, 4, 0, 2⟩ _).mono ?_; rintro e5 wq ⟨rfl, hkk⟩; have hS := hS.no hkk; (try have p1 := p1.keep hkk (fun f => f)); (try have p2 := p2.keep hkk (fun f => f)); clear hkk; unfold mapV; dsimp only; (try go_wp2_with fail)
                                  refine hkC.out _ _ ?_ (fun hHeld => ?_)
                                  · exact (hS.cells)
                                  clear hkC kC
                                  try simp only [Act.put, List.setIfInBounds_toArray, List.set_cons_zero, List.set_cons_succ]
                                  exact hD6 g1 g2 _ ⟨hS, p1, p2, f1, f2, ne12⟩
                            · intro wq hR
                              have hS := hR
                              have hHeld : (fun w' => (w'.cell? ⟨B, 0, none⟩ = some (.int .i64 2) ∧ w'.cell? ⟨B, 1, none⟩ = some (.int .i64 2) ∧ w'.cell? ⟨B, 2, none⟩ = some (.int .i64 4) ∧ w'.cell? ⟨B, 3, none⟩ = some (.int .i64 0) ∧ w'.cell? ⟨B, 4, none⟩ = some (.int .i64 2)) ∧ (w'.cell? ⟨H, 0, none⟩ = some (.int .i64 t1) ∧ w'.cell? ⟨H, 1, none⟩ = some (.int .i64 l1) ∧ w'.cell? ⟨H, 2, none⟩ = some (.int .i64 s1) ∧ w'.cell? ⟨H, 3, none⟩ = some (.bool rd) ∧ w'.cell? ⟨H, 4, none⟩ = some (.int .i64 x1))) wq := hS.cells
                              refine wpAnyH_ready (rs := [8, 9, 10]) (by kernel_rfl) (by simp) ?_
                              refine AllReadyH.cons (by simp only [List.getElem?_toArray, List.getElem?_cons_succ, List.getElem?_cons_zero]; rfl) (fun kC hkC => ?_) (AllReadyH.cons (by simp only [List.getElem?_toArray, List.getElem?_cons_succ, List.getElem?_cons_zero]; rfl) (fun kC hkC => ?_) (AllReadyH.cons (by simp only [List.getElem?_toArray, List.getElem?_cons_succ, List.getElem?_cons_zero]; rfl) (fun kC hkC => ?_) AllReadyH.nil))
                              -- operation 8 of state 9
                              · go_simp
                                refine (rtake_any 2 2 4 0 2 t1 l1 s1 rd x1 c u M _ hS.tw.r.m HM.out).mono ?_; rw [HD.out]; unfold handV; dsimp only; rintro e8 wq ⟨rfl, hm, hkk⟩; have hS := hS.turnR hm hkk HL'.out; (try have p1 := p1.keep hkk f1.nc); (try have p2 := p2.keep hkk f2.nc); clear hm hkk; (try go_wp2_with fail)
                                refine hkC.out _ _ ?_ (fun hHeld => ?_)
                                · exact (hS.cells)
                                clear hkC kC
                                try simp only [Act.put, List.setIfInBounds_toArray, List.set_cons_zero, List.set_cons_succ]
                                exact hD5  _ hS
                              -- operation 9 of state 9
                              · go_simp
                                have f1 := hS.fresh; (try have ne12 : wq.heap.size ≠ g2 := fun e => by (have := blk_lt p2; omega)); have p1 := handAt_new wq 32 0 0 0 false 0; have hS := hS.no ((Keeps.refl NoS wq).alloc (.cells #[.int .i64 0, .int .i64 0, .int .i64 0, .bool false, .int .i64 0] 32)); (try have p2 := p2.keep ((Keeps.refl NoS wq).alloc (.cells #[.int .i64 0, .int .i64 0, .int .i64 0, .bool false, .int .i64 0] 32)) (fun f => f)); obtain ⟨g1, hg1⟩ : ∃ g, wq.heap.size = g := ⟨_, rfl⟩; (try rw [hg1] at ne12); rw [hg1] at f1 p1 ⊢; clear hg1; generalize wq.alloc (.cells #[.int .i64 0, .int .i64 0, .int .i64 0, .bool false, .int .i64 0] 32) = wq at *
                                refine hkC.out _ _ ?_ (fun hHeld => ?_)
                                · exact (hS.cells)
                                clear hkC kC
                                try simp only [Act.put, List.setIfInBounds_toArray, List.set_cons_zero, List.set_cons_succ]
                                exact hD7 g1 _ ⟨hS, p1, f1⟩
                              -- operation 10 of state 9
                              · go_simp
                                have f2 := hS.fresh; (try have ne12 : g1 ≠ wq.heap.size := fun e => by (have := blk_lt p1; omega)); have p2 := handAt_new wq 32 0 0 0 false 0; have hS := hS.no ((Keeps.refl NoS wq).alloc (.cells #[.int .i64 0, .int .i64 0, .int .i64 0, .bool false, .int .i64 0] 32)); (try have p1 := p1.keep ((Keeps.refl NoS wq).alloc (.cells #[.int .i64 0, .int .i64 0, .int .i64 0, .bool false, .int .i64 0] 32)) (fun f => f)); obtain ⟨g2, hg2⟩ : ∃ g, wq.heap.size = g := ⟨_, rfl⟩; (try rw [hg2] at ne12); rw [hg2] at f2 p2 ⊢; clear hg2; generalize wq.alloc (.cells #[.int .i64 0, .int .i64 0, .int .i64 0, .bool false, .int .i64 0] 32) = wq at *
                                refine hkC.out _ _ ?_ (fun hHeld => ?_)
                                · exact (hS.cells)
                                clear hkC kC
                                try simp only [Act.put, List.setIfInBounds_toArray, List.set_cons_zero, List.set_cons_succ]
                                exact hD8 g2 _ ⟨hS, p2, f2⟩
                          · intro g2 wq hR
                            obtain ⟨hS, p2, f2⟩ := hR
                            have hHeld : (fun w' => (w'.cell? ⟨B, 0, none⟩ = some (.int .i64 2) ∧ w'.cell? ⟨B, 1, none⟩ = some (.int .i64 2) ∧ w'.cell? ⟨B, 2, none⟩ = some (.int .i64 4) ∧ w'.cell? ⟨B, 3, none⟩ = some (.int .i64 0) ∧ w'.cell? ⟨B, 4, none⟩ = some (.int .i64 2)) ∧ (w'.cell? ⟨H, 0, none⟩ = some (.int .i64 t1) ∧ w'.cell? ⟨H, 1, none⟩ = some (.int .i64 l1) ∧ w'.cell? ⟨H, 2, none⟩ = some (.int .i64 s1) ∧ w'.cell? ⟨H, 3, none⟩ = some (.bool rd) ∧ w'.cell? ⟨H, 4, none⟩ = some (.int .i64 x1))) wq := hS.cells
                            refine wpAnyH_ready (rs := [8, 9]) (by kernel_rfl) (by simp) ?_
                            refine AllReadyH.cons (by simp only [List.getElem?_toArray, List.getElem?_cons_succ, List.getElem?_cons_zero]; rfl) (fun kC hkC => ?_) (AllReadyH.cons (by simp only [List.getElem?_toArray, List.getElem?_cons_succ, List.getElem?_cons_zero]; rfl) (fun kC hkC => ?_) AllReadyH.nil)
                            -- operation 8 of state 8
                            · go_simp
                              refine (rtake_any 2 2 4 0 2 t1 l1 s1 rd x1 c u M _ hS.tw.r.m HM.out).mono ?_; rw [HD.out]; unfold handV; dsimp only; rintro e8 wq ⟨rfl, hm, hkk⟩; have hS := hS.turnR hm hkk HL'.out; (try have p1 := p1.keep hkk f1.nc); (try have p2 := p2.keep hkk f2.nc); clear hm hkk; (try go_wp2_with fail)
                              refine hkC.out _ _ ?_ (fun hHeld => ?_)
                              · exact (hS.cells)
                              clear hkC kC
                              try simp only [Act.put, List.setIfInBounds_toArray, List.set_cons_zero, List.set_cons_succ]
                              exact hD4 g2 _ ⟨hS, p2, f2⟩
                            -- operation 9 of state 8
                            · go_simp
                              have f1 := hS.fresh; (try have ne12 : wq.heap.size ≠ g2 := fun e => by (have := blk_lt p2; omega)); have p1 := handAt_new wq 32 0 0 0 false 0; have hS := hS.no ((Keeps.refl NoS wq).alloc (.cells #[.int .i64 0, .int .i64 0, .int .i64 0, .bool false, .int .i64 0] 32)); (try have p2 := p2.keep ((Keeps.refl NoS wq).alloc (.cells #[.int .i64 0, .int .i64 0, .int .i64 0, .bool false, .int .i64 0] 32)) (fun f => f)); obtain ⟨g1, hg1⟩ : ∃ g, wq.heap.size = g := ⟨_, rfl⟩; (try rw [hg1] at ne12); rw [hg1] at f1 p1 ⊢; clear hg1; generalize wq.alloc (.cells #[.int .i64 0, .int .i64 0, .int .i64 0, .bool false, .int .i64 0] 32) = wq at *
                              refine hkC.out _ _ ?_ (fun hHeld => ?_)
                              · exact (hS.cells)
                              clear hkC kC
                              try simp only [Act.put, List.setIfInBounds_toArray, List.set_cons_zero, List.set_cons_succ]
                              exact hD6 g1 g2 _ ⟨hS, p1, p2, f1, f2, ne12⟩
                        · intro g1 wq hR
                          obtain ⟨hS, p1, f1⟩ := hR
                          have hHeld : (fun w' => (w'.cell? ⟨B, 0, none⟩ = some (.int .i64 2) ∧ w'.cell? ⟨B, 1, none⟩ = some (.int .i64 2) ∧ w'.cell? ⟨B, 2, none⟩ = some (.int .i64 4) ∧ w'.cell? ⟨B, 3, none⟩ = some (.int .i64 0) ∧ w'.cell? ⟨B, 4, none⟩ = some (.int .i64 2)) ∧ (w'.cell? ⟨H, 0, none⟩ = some (.int .i64 t1) ∧ w'.cell? ⟨H, 1, none⟩ = some (.int .i64 l1) ∧ w'.cell? ⟨H, 2, none⟩ = some (.int .i64 s1) ∧ w'.cell? ⟨H, 3, none⟩ = some (.bool rd) ∧ w'.cell? ⟨H, 4, none⟩ = some (.int .i64 x1))) wq := hS.cells
                          refine wpAnyH_ready (rs := [8, 10]) (by kernel_rfl) (by simp) ?_
                          refine AllReadyH.cons (by simp only [List.getElem?_toArray, List.getElem?_cons_succ, List.getElem?_cons_zero]; rfl) (fun kC hkC => ?_) (AllReadyH.cons (by simp only [List.getElem?_toArray, List.getElem?_cons_succ, List.getElem?_cons_zero]; rfl) (fun kC hkC => ?_) AllReadyH.nil)
                          -- operation 8 of state 7
                          · go_simp
                            refine (rtake_any 2 2 4 0 2 t1 l1 s1 rd x1 c u M _ hS.tw.r.m HM.out).mono ?_; rw [HD.out]; unfold handV; dsimp only; rintro e8 wq ⟨rfl, hm, hkk⟩; have hS := hS.turnR hm hkk HL'.out; (try have p1 := p1.keep hkk f1.nc); (try have p2 := p2.keep hkk f2.nc); clear hm hkk; (try go_wp2_with fail)
                            refine hkC.out _ _ ?_ (fun hHeld => ?_)
                            · exact (hS.cells)
                            clear hkC kC
                            try simp only [Act.put, List.setIfInBounds_toArray, List.set_cons_zero, List.set_cons_succ]
                            exact hD3 g1 _ ⟨hS, p1, f1⟩
                          -- operation 10 of state 7
                          · go_simp
                            have f2 := hS.fresh; (try have ne12 : g1 ≠ wq.heap.size := fun e => by (have := blk_lt p1; omega)); have p2 := handAt_new wq 32 0 0 0 false 0; have hS := hS.no ((Keeps.refl NoS wq).alloc (.cells #[.int .i64 0, .int .i64 0, .int .i64 0, .bool false, .int .i64 0] 32)); (try have p1 := p1.keep ((Keeps.refl NoS wq).alloc (.cells #[.int .i64 0, .int .i64 0, .int .i64 0, .bool false, .int .i64 0] 32)) (fun f => f)); obtain ⟨g2, hg2⟩ : ∃ g, wq.heap.size = g := ⟨_, rfl⟩; (try rw [hg2] at ne12); rw [hg2] at f2 p2 ⊢; clear hg2; generalize wq.alloc (.cells #[.int .i64 0, .int .i64 0, .int .i64 0, .bool false, .int .i64 0] 32) = wq at *
                            refine hkC.out _ _ ?_ (fun hHeld => ?_)
                            · exact (hS.cells)
                            clear hkC kC
                            try simp only [Act.put, List.setIfInBounds_toArray, List.set_cons_zero, List.set_cons_succ]
                            exact hD6 g1 g2 _ ⟨hS, p1, p2, f1, f2, ne12⟩
                      · intro g1 g2 wq hR
                        obtain ⟨hS, p1, p2, f1, f2, ne12⟩ := hR
                        have hHeld : (fun w' => (w'.cell? ⟨B, 0, none⟩ = some (.int .i64 2) ∧ w'.cell? ⟨B, 1, none⟩ = some (.int .i64 2) ∧ w'.cell? ⟨B, 2, none⟩ = some (.int .i64 4) ∧ w'.cell? ⟨B, 3, none⟩ = some (.int .i64 0) ∧ w'.cell? ⟨B, 4, none⟩ = some (.int .i64 2)) ∧ (w'.cell? ⟨H, 0, none⟩ = some (.int .i64 t1) ∧ w'.cell? ⟨H, 1, none⟩ = some (.int .i64 l1) ∧ w'.cell? ⟨H, 2, none⟩ = some (.int .i64 s1) ∧ w'.cell? ⟨H, 3, none⟩ = some (.bool rd) ∧ w'.cell? ⟨H, 4, none⟩ = some (.int .i64 x1))) wq := hS.cells
                        refine wpAnyH_ready (rs := [8]) (by kernel_rfl) (by simp) ?_
                        refine AllReadyH.cons (by simp only [List.getElem?_toArray, List.getElem?_cons_succ, List.getElem?_cons_zero]; rfl) (fun kC hkC => ?_) AllReadyH.nil
                        -- operation 8 of state 6
                        · go_simp
                          refine (rtake_any 2 2 4 0 2 t1 l1 s1 rd x1 c u M _ hS.tw.r.m HM.out).mono ?_; rw [HD.out]; unfold handV; dsimp only; rintro e8 wq ⟨rfl, hm, hkk⟩; have hS := hS.turnR hm hkk HL'.out; (try have p1 := p1.keep hkk f1.nc); (try have p2 := p2.keep hkk f2.nc); clear hm hkk; (try go_wp2_with fail)
                          refine hkC.out _ _ ?_ (fun hHeld => ?_)
                          · exact (hS.cells)
                          clear hkC kC
                          try simp only [Act.put, List.setIfInBounds_toArray, List.set_cons_zero, List.set_cons_succ]
                          exact hD2 g1 g2 _ ⟨hS, p1, p2, f1, f2, ne12⟩
                    · intro wq hR
                      have hS := hR
                      have hHeld : (fun w' => (w'.cell? ⟨B, 0, none⟩ = some (.int .i64 2) ∧ w'.cell? ⟨B, 1, none⟩ = some (.int .i64 2) ∧ w'.cell? ⟨B, 2, none⟩ = some (.int .i64 4) ∧ w'.cell? ⟨B, 3, none⟩ = some (.int .i64 0) ∧ w'.cell? ⟨B, 4, none⟩ = some (.int .i64 2)) ∧ (w'.cell? ⟨H, 0, none⟩ = some (.int .i64 t1) ∧ w'.cell? ⟨H, 1, none⟩ = some (.int .i64 l1) ∧ w'.cell? ⟨H, 2, none⟩ = some (.int .i64 s1) ∧ w'.cell? ⟨H, 3, none⟩ = some (.bool rd) ∧ w'.cell? ⟨H, 4, none⟩ = some (.int .i64 x1))) wq := hS.cells
                      refine wpAnyH_ready (rs := [9, 10]) (by kernel_rfl) (by simp) ?_
                      refine AllReadyH.cons (by simp only [List.getElem?_toArray, List.getElem?_cons_succ, List.getElem?_cons_zero]; rfl) (fun kC hkC => ?_) (AllReadyH.cons (by simp only [List.getElem?_toArray, List.getElem?_cons_succ, List.getElem?_cons_zero]; rfl) (fun kC hkC => ?_) AllReadyH.nil)
                      -- operation 9 of state 5
                      · go_simp
                        have f1 := hS.fresh; (try have ne12 : wq.heap.size ≠ g2 := fun e => by (have := blk_lt p2; omega)); have p1 := handAt_new wq 32 0 0 0 false 0; have hS := hS.no ((Keeps.refl NoS wq).alloc (.cells #[.int .i64 0, .int .i64 0, .int .i64 0, .bool false, .int .i64 0] 32)); (try have p2 := p2.keep ((Keeps.refl NoS wq).alloc (.cells #[.int .i64 0, .int .i64 0, .int .i64 0, .bool false, .int .i64 0] 32)) (fun f => f)); obtain ⟨g1, hg1⟩ : ∃ g, wq.heap.size = g := ⟨_, rfl⟩; (try rw [hg1] at ne12); rw [hg1] at f1 p1 ⊢; clear hg1; generalize wq.alloc (.cells #[.int .i64 0, .int .i64 0, .int .i64 0, .bool false, .int .i64 0] 32) = wq at *
                        refine hkC.out _ _ ?_ (fun hHeld => ?_)
                        · exact (hS.cells)
                        clear hkC kC
                        try simp only [Act.put, List.setIfInBounds_toArray, List.set_cons_zero, List.set_cons_succ]
                        exact hD3 g1 _ ⟨hS, p1, f1⟩
                      -- operation 10 of state 5
                      · go_simp
                        have f2 := hS.fresh; (try have ne12 : g1 ≠ wq.heap.size := fun e => by (have := blk_lt p1; omega)); have p2 := handAt_new wq 32 0 0 0 false 0; have hS := hS.no ((Keeps.refl NoS wq).alloc (.cells #[.int .i64 0, .int .i64 0, .int .i64 0, .bool false, .int .i64 0] 32)); (try have p1 := p1.keep ((Keeps.refl NoS wq).alloc (.cells #[.int .i64 0, .int .i64 0, .int .i64 0, .bool false, .int .i64 0] 32)) (fun f => f)); obtain ⟨g2, hg2⟩ : ∃ g, wq.heap.size = g := ⟨_, rfl⟩; (try rw [hg2] at ne12); rw [hg2] at f2 p2 ⊢; clear hg2; generalize wq.alloc (.cells #[.int .i64 0, .int .i64 0, .int .i64 0, .bool false, .int .i64 0] 32) = wq at *
                        refine hkC.out _ _ ?_ (fun hHeld => ?_)
                        · exact (hS.cells)
                        clear hkC kC
                        try simp only [Act.put, List.setIfInBounds_toArray, List.set_cons_zero, List.set_cons_succ]
                        exact hD4 g2 _ ⟨hS, p2, f2⟩
                  · intro g2 wq hR
                    obtain ⟨hS, p2, f2⟩ := hR
                    have hHeld : (fun w' => (w'.cell? ⟨B, 0, none⟩ = some (.int .i64 2) ∧ w'.cell? ⟨B, 1, none⟩ = some (.int .i64 2) ∧ w'.cell? ⟨B, 2, none⟩ = some (.int .i64 4) ∧ w'.cell? ⟨B, 3, none⟩ = some (.int .i64 0) ∧ w'.cell? ⟨B, 4, none⟩ = some (.int .i64 2)) ∧ (w'.cell? ⟨H, 0, none⟩ = some (.int .i64 t1) ∧ w'.cell? ⟨H, 1, none⟩ = some (.int .i64 l1) ∧ w'.cell? ⟨H, 2, none⟩ = some (.int .i64 s1) ∧ w'.cell? ⟨H, 3, none⟩ = some (.bool rd) ∧ w'.cell? ⟨H, 4, none⟩ = some (.int .i64 x1))) wq := hS.cells
                    refine wpAnyH_ready (rs := [9]) (by kernel_rfl) (by simp) ?_
                    refine AllReadyH.cons (by simp only [List.getElem?_toArray, List.getElem?_cons_succ, List.getElem?_cons_zero]; rfl) (fun kC hkC => ?_) AllReadyH.nil
                    -- operation 9 of state 4
                    · go_simp
                      have f1 := hS.fresh; (try have ne12 : wq.heap.size ≠ g2 := fun e => by (have := blk_lt p2; omega)); have p1 := handAt_new wq 32 0 0 0 false 0; have hS := hS.no ((Keeps.refl NoS wq).alloc (.cells #[.int .i64 0, .int .i64 0, .int .i64 0, .bool false, .int .i64 0] 32)); (try have p2 := p2.keep ((Keeps.refl NoS wq).alloc (.cells #[.int .i64 0, .int .i64 0, .int .i64 0, .bool false, .int .i64 0] 32)) (fun f => f)); obtain ⟨g1, hg1⟩ : ∃ g, wq.heap.size = g := ⟨_, rfl⟩; (try rw [hg1] at ne12); rw [hg1] at f1 p1 ⊢; clear hg1; generalize wq.alloc (.cells #[.int .i64 0, .int .i64 0, .int .i64 0, .bool false, .int .i64 0] 32) = wq at *
                      refine hkC.out _ _ ?_ (fun hHeld => ?_)
                      · exact (hS.cells)
                      clear hkC kC
                      try simp only [Act.put, List.setIfInBounds_toArray, List.set_cons_zero, List.set_cons_succ]
                      exact hD2 g1 g2 _ ⟨hS, p1, p2, f1, f2, ne12⟩
                · intro g1 wq hR
                  obtain ⟨hS, p1, f1⟩ := hR
                  have hHeld : (fun w' => (w'.cell? ⟨B, 0, none⟩ = some (.int .i64 2) ∧ w'.cell? ⟨B, 1, none⟩ = some (.int .i64 2) ∧ w'.cell? ⟨B, 2, none⟩ = some (.int .i64 4) ∧ w'.cell? ⟨B, 3, none⟩ = some (.int .i64 0) ∧ w'.cell? ⟨B, 4, none⟩ = some (.int .i64 2)) ∧ (w'.cell? ⟨H, 0, none⟩ = some (.int .i64 t1) ∧ w'.cell? ⟨H, 1, none⟩ = some (.int .i64 l1) ∧ w'.cell? ⟨H, 2, none⟩ = some (.int .i64 s1) ∧ w'.cell? ⟨H, 3, none⟩ = some (.bool rd) ∧ w'.cell? ⟨H, 4, none⟩ = some (.int .i64 x1))) wq := hS.cells
                  refine wpAnyH_ready (rs := [10]) (by kernel_rfl) (by simp) ?_
                  refine AllReadyH.cons (by simp only [List.getElem?_toArray, List.getElem?_cons_succ, List.getElem?_cons_zero]; rfl) (fun kC hkC => ?_) AllReadyH.nil
                  -- operation 10 of state 3
                  · go_simp
                    have f2 := hS.fresh; (try have ne12 : g1 ≠ wq.heap.size := fun e => by (have := blk_lt p1; omega)); have p2 := handAt_new wq 32 0 0 0 false 0; have hS := hS.no ((Keeps.refl NoS wq).alloc (.cells #[.int .i64 0, .int .i64 0, .int .i64 0, .bool false, .int .i64 0] 32)); (try have p1 := p1.keep ((Keeps.refl NoS wq).alloc (.cells #[.int .i64 0, .int .i64 0, .int .i64 0, .bool false, .int .i64 0] 32)) (fun f => f)); obtain ⟨g2, hg2⟩ : ∃ g, wq.heap.size = g := ⟨_, rfl⟩; (try rw [hg2] at ne12); rw [hg2] at f2 p2 ⊢; clear hg2; generalize wq.alloc (.cells #[.int .i64 0, .int .i64 0, .int .i64 0, .bool false, .int .i64 0] 32) = wq at *
                    refine hkC.out _ _ ?_ (fun hHeld => ?_)
                    · exact (hS.cells)
                    clear hkC kC
                    try simp only [Act.put, List.setIfInBounds_toArray, List.set_cons_zero, List.set_cons_succ]
                    exact hD2 g1 g2 _ ⟨hS, p1, p2, f1, f2, ne12⟩
              · intro g1 g2 wq hR
                obtain ⟨hS, p1, p2, f1, f2, ne12⟩ := hR
                have hHeld : (fun w' => (w'.cell? ⟨B, 0, none⟩ = some (.int .i64 2) ∧ w'.cell? ⟨B, 1, none⟩ = some (.int .i64 2) ∧ w'.cell? ⟨B, 2, none⟩ = some (.int .i64 4) ∧ w'.cell? ⟨B, 3, none⟩ = some (.int .i64 0) ∧ w'.cell? ⟨B, 4, none⟩ = some (.int .i64 2)) ∧ (w'.cell? ⟨H, 0, none⟩ = some (.int .i64 t1) ∧ w'.cell? ⟨H, 1, none⟩ = some (.int .i64 l1) ∧ w'.cell? ⟨H, 2, none⟩ = some (.int .i64 s1) ∧ w'.cell? ⟨H, 3, none⟩ = some (.bool rd) ∧ w'.cell? ⟨H, 4, none⟩ = some (.int .i64 x1))) wq := hS.cells
                refine wpAnyH_ready (rs := [11]) (by kernel_rfl) (by simp) ?_
                refine AllReadyH.cons (by simp only [List.getElem?_toArray, List.getElem?_cons_succ, List.getElem?_cons_zero]; rfl) (fun kC hkC => ?_) AllReadyH.nil
                -- operation 11 of state 2
                · obtain ⟨y0, y1, y2, y3, y4, yf0, yf1, yf2, yf3, yf4, yz⟩ := p1.cells; go_simp; have hS := hS.far f1 (keeps5 g1 t' l' s' r' x'); have p1 := p1.set5 (t' := t') (l' := l') (s' := s') (r' := r') (x' := x'); have p2 := p2.keep (keeps5 (wr := wq) g1 t' l' s' r' x') (fun e => ne12 (by have e' : g2 = g1 := e; exact e'.symm)); generalize ((((wq.setCell ⟨g1, 0, none⟩ (.int .i64 t')).setCell ⟨g1, 1, none⟩ (.int .i64 l')).setCell ⟨g1, 2, none⟩ (.int .i64 s')).setCell ⟨g1, 3, none⟩ (.bool r')).setCell ⟨g1, 4, none⟩ (.int .i64 x') = wq at *; clear y0 y1 y2 y3 y4 yf0 yf1 yf2 yf3 yf4 yz
                  refine hkC.out _ _ ?_ (fun hHeld => ?_)
                  · exact (hS.cells)
                  clear hkC kC
                  try simp only [Act.put, List.setIfInBounds_toArray, List.set_cons_zero, List.set_cons_succ]
                  exact hD1 g1 g2 _ ⟨hS, p1, p2, f1, f2, ne12⟩
            · intro g1 g2 wq hR
              obtain ⟨hS, p1, p2, f1, f2, ne12⟩ := hR
              have hHeld : (fun w' => (w'.cell? ⟨B, 0, none⟩ = some (.int .i64 2) ∧ w'.cell? ⟨B, 1, none⟩ = some (.int .i64 2) ∧ w'.cell? ⟨B, 2, none⟩ = some (.int .i64 4) ∧ w'.cell? ⟨B, 3, none⟩ = some (.int .i64 0) ∧ w'.cell? ⟨B, 4, none⟩ = some (.int .i64 2)) ∧ (w'.cell? ⟨H, 0, none⟩ = some (.int .i64 t1) ∧ w'.cell? ⟨H, 1, none⟩ = some (.int .i64 l1) ∧ w'.cell? ⟨H, 2, none⟩ = some (.int .i64 s1) ∧ w'.cell? ⟨H, 3, none⟩ = some (.bool rd) ∧ w'.cell? ⟨H, 4, none⟩ = some (.int .i64 x1))) wq := hS.cells
              refine wpAnyH_ready (rs := [12]) (by kernel_rfl) (by simp) ?_
              refine AllReadyH.cons (by simp only [List.getElem?_toArray, List.getElem?_cons_succ, List.getElem?_cons_zero]; rfl) (fun kC hkC => ?_) AllReadyH.nil
              -- operation 12 of state 1
              · obtain ⟨y0, y1, y2, y3, y4, yf0, yf1, yf2, yf3, yf4, yz⟩ := p2.cells; go_simp; have hS := hS.far f2 (keeps5 g2 t' l' s' r' x'); have p2 := p2.set5 (t' := t') (l' := l') (s' := s') (r' := r') (x' := x'); have p1 := p1.keep (keeps5 (wr := wq) g2 t' l' s' r' x') (fun e => ne12 (by have e' : g1 = g2 := e; exact e')); generalize ((((wq.setCell ⟨g2, 0, none⟩ (.int .i64 t')).setCell ⟨g2, 1, none⟩ (.int .i64 l')).setCell ⟨g2, 2, none⟩ (.int .i64 s')).setCell ⟨g2, 3, none⟩ (.bool r')).setCell ⟨g2, 4, none⟩ (.int .i64 x') = wq at *; clear y0 y1 y2 y3 y4 yf0 yf1 yf2 yf3 yf4 yz
                refine hkC.out _ _ ?_ (fun hHeld => ?_)
                · exact (hS.cells)
                clear hkC kC
                try simp only [Act.put, List.setIfInBounds_toArray, List.set_cons_zero, List.set_cons_succ]
                exact hD0 g1 g2 _ ⟨hS, p1, p2, f1, f2, ne12⟩
          intro g1 g2 wq hR
          obtain ⟨hS, p1, p2, f1, f2, ne12⟩ := hR
          refine wpAnyH_done (by kernel_rfl) ?_ _
          all_goals
            go_wp2_with fail
            go_meet
            exact ⟨g1, g2, rfl, rfl, hS, p1, p2, f1, f2, ne12⟩
        case rest =>
          obtain ⟨g1, g2, rfl, rfl, hT⟩ := hcut
          have HT := Lib.hid hT
          clear hT HS' HM HD
          go_upto_if 88 with fail
          go_cut [10, 11, 14] (fun pw pr nv wx => ∃ (a c : Nat) (v u : Value) (M2 : MemS) (N2 : Int) (t2 l2 s2 : Int) (r2 : Bool) (x2 : Int), pw = .pointer (some ⟨a, 0, none⟩) ∧ pr = .pointer (some ⟨c, 0, none⟩) ∧ nv = .int .i64 N2 ∧ TkT w wx B H Wb a c v u M2 M2 w0 w1 w2 t1 l1 s1 rd x1 g1 g2 t2 l2 s2 r2 x2 ∧ IntKind.i64.wrap (M2.st - N2) ≤ 1)
          case first =>
            cases drop
            · go_wp2_with fail
              go_meet
              exact ⟨a, c, v, u, M', N0, t', l', s', r', x', rfl, rfl, rfl, HT.out, by rw [IntWalk.i64_in _ (by have := HST'.out; omega)]; have := HST'.out; omega⟩
            · obtain ⟨gu, cu, rfl, _, hcu, _⟩ := owns_ints (n := 48) (L := M'.L) (v := u) (w := wc) (by have h := HT.out.s.tw.r.m.ow; rw [HL'.out] at h; exact h) (by decide)
              have hc0 := HT.out.s.tw.r.m.cells.1
              have HT1 := Lib.hid (HT.out.no ((Keeps.refl NoS wc).drew))
              have HCU := Lib.hid hcu
              clear hcu
              go_wp2_with fail
              refine wp_region_held_drew (S := (fun w' => w'.cell? ⟨c, 0, none⟩ = some (.slice (some ⟨gu, 0, none⟩) 48 cu))) (by kernel_rfl) (hc0) (fun hHeld => ?_)
              refine wpAnyH_take (i := 0) (v := ?_) (by simp only [List.getElem?_toArray, List.getElem?_cons_succ, List.getElem?_cons_zero]; rfl) (by kernel_rfl) (by kernel_rfl) (by kernel_rfl) (by exact fun _ _ _ h => h) (Or.inl ⟨by rfl, ?_⟩) hHeld ?_
              rotate_left
              · intro w hSw; (try dsimp only at hSw); go_simp; (try with_reducible rfl)
              try simp only [Act.put, List.setIfInBounds_toArray, List.set_cons_zero, List.set_cons_succ]
              refine wpAnyH_take (i := 3) (v := ?_) (by simp only [List.getElem?_toArray, List.getElem?_cons_succ, List.getElem?_cons_zero]; rfl) (by kernel_rfl) (by kernel_rfl) (by kernel_rfl) (by exact fun _ _ _ h => h) (Or.inl ⟨by rfl, ?_⟩) hHeld ?_
              rotate_left
              · intro w hSw; (try dsimp only at hSw); go_simp; (try with_reducible rfl)
              try simp only [Act.put, List.setIfInBounds_toArray, List.set_cons_zero, List.set_cons_succ]
              refine wpAnyH_take (i := 4) (v := ?_) (by simp only [List.getElem?_toArray, List.getElem?_cons_succ, List.getElem?_cons_zero]; rfl) (by kernel_rfl) (by kernel_rfl) (by kernel_rfl) (by exact fun _ _ _ h => h) (Or.inl ⟨by rfl, ?_⟩) hHeld ?_
              rotate_left
              · intro w hSw; (try dsimp only at hSw); go_simp; (try with_reducible rfl)
              try simp only [Act.put, List.setIfInBounds_toArray, List.set_cons_zero, List.set_cons_succ]
              refine wpAnyH_take (i := 5) (v := ?_) (by simp only [List.getElem?_toArray, List.getElem?_cons_succ, List.getElem?_cons_zero]; rfl) (by kernel_rfl) (by kernel_rfl) (by kernel_rfl) (by exact fun _ _ _ h => h) (Or.inl ⟨by rfl, ?_⟩) hHeld ?_
              rotate_left
              · intro w hSw; (try dsimp only at hSw); go_simp; (try with_reducible rfl)
              try simp only [Act.put, List.setIfInBounds_toArray, List.set_cons_zero, List.set_cons_succ]
              refine wpAnyH_take (i := 6) (v := ?_) (by simp only [List.getElem?_toArray, List.getElem?_cons_succ, List.getElem?_cons_zero]; rfl) (by kernel_rfl) (by kernel_rfl) (by kernel_rfl) (by exact fun _ _ _ h => h) (Or.inl ⟨by rfl, ?_⟩) hHeld ?_
              rotate_left
              · intro w hSw; (try dsimp only at hSw); go_simp; (try with_reducible rfl)
              try simp only [Act.put, List.setIfInBounds_toArray, List.set_cons_zero, List.set_cons_succ]
              refine wpAnyH_ready (rs := [1]) (by kernel_rfl) (by simp) ?_
              refine AllReadyH.cons (by simp only [List.getElem?_toArray, List.getElem?_cons_succ, List.getElem?_cons_zero]; rfl) (fun kC hkC => ?_) AllReadyH.nil
              go_simp
              refine (all_any a v M' _ HT1.out.s.tw.s.m).mono ?_; rw [HL'.out]; rintro e w7 ⟨ua, rfl, ho1, hn1, hk7⟩; obtain ⟨ga, ca, rfl, _, hca, _⟩ := owns_ints ho1 (by decide); have HCA := Lib.hid hca; have hd7 := hk7.cell (p := ⟨c, 0, none⟩) hc0 (fun f => f); clear ho1 hn1 hca
              (try go_wp2_with fail)
              refine hkC.out _ _ (hd7) (fun hHeld => ?_)
              clear hkC kC
              try simp only [Act.put, List.setIfInBounds_toArray, List.set_cons_zero, List.set_cons_succ]
              refine wpAnyH_ready (rs := [2]) (by kernel_rfl) (by simp) ?_
              refine AllReadyH.cons (by simp only [List.getElem?_toArray, List.getElem?_cons_succ, List.getElem?_cons_zero]; rfl) (fun kC hkC => ?_) AllReadyH.nil
              go_simp
              refine (new_someN ga 0 ca 48 M'.L _ HL'.out (by decide) (by decide) (fun k hk => by rw [Nat.zero_add]; exact HCA.out k hk)).mono ?_; rintro e w8 ⟨a2, v2, rfl, hm8, ha8, hv8, hk8⟩; have hd8 := hk8.cell (p := ⟨c, 0, none⟩) hd7 (fun f => f); have hcu8 : ∀ k, k < 48 → w8.cell? ⟨gu, 0 + k, none⟩ = some (.int .i64 (M'.L.getD k 0)) := fun k hk => by rw [Nat.zero_add]; exact (((Keeps.refl NoS wc).drew.trans hk7).trans hk8).cell (HCU.out k hk) (fun f => f)
              (try go_wp2_with fail)
              refine hkC.out _ _ (hd8) (fun hHeld => ?_)
              clear hkC kC
              try simp only [Act.put, List.setIfInBounds_toArray, List.set_cons_zero, List.set_cons_succ]
              refine wpAnyH_ready (rs := [7]) (by kernel_rfl) (by simp) ?_
              refine AllReadyH.cons (by simp only [List.getElem?_toArray, List.getElem?_cons_succ, List.getElem?_cons_zero]; rfl) (fun kC hkC => ?_) AllReadyH.nil
              go_simp
              refine (rnew_someN gu 0 cu 48 M'.L _ HL'.out (by decide) (by decide) hcu8).mono ?_; rintro e w9 ⟨c2, u2, rfl, hm9, ha9, hv9, hk9⟩; have hd9 := hk9.cell (p := ⟨c, 0, none⟩) hd8 (fun f => f)
              (try go_wp2_with fail)
              refine hkC.out _ _ (hd9) (fun hHeld => ?_)
              clear hkC kC
              try simp only [Act.put, List.setIfInBounds_toArray, List.set_cons_zero, List.set_cons_succ]
              refine wpAnyH_take (i := 8) (v := ?_) (by simp only [List.getElem?_toArray, List.getElem?_cons_succ, List.getElem?_cons_zero]; rfl) (by kernel_rfl) (by kernel_rfl) (by kernel_rfl) (by exact fun _ _ _ h => h) (Or.inl ⟨by rfl, ?_⟩) hHeld ?_
              rotate_left
              · intro w hSw; (try dsimp only at hSw); go_simp; (try with_reducible rfl)
              try simp only [Act.put, List.setIfInBounds_toArray, List.set_cons_zero, List.set_cons_succ]
              refine wpAnyH_take (i := 9) (v := ?_) (by simp only [List.getElem?_toArray, List.getElem?_cons_succ, List.getElem?_cons_zero]; rfl) (by kernel_rfl) (by kernel_rfl) (by kernel_rfl) (by exact fun _ _ _ h => h) (Or.inl ⟨by rfl, ?_⟩) hHeld ?_
              rotate_left
              · intro w hSw; (try dsimp only at hSw); go_simp; (try with_reducible rfl)
              try simp only [Act.put, List.setIfInBounds_toArray, List.set_cons_zero, List.set_cons_succ]
              refine wpAnyH_done (by kernel_rfl) ?_ _
              have hkd := (Keeps.refl NoS wc).drew.trans hk7
              have hf8 := fresh_in (HT.out.s.tw.s.kp.trans hkd) hm8 ha8 hv8 hk8
              have hT9 := TwoT.make hf8 hm9 ha9 hv9 hk9
              have hz8 : wc.heap.size ≤ w8.heap.size := (hkd.trans hk8).size
              have hz7 : wc.heap.size ≤ w7.heap.size := hkd.size
              have hTT := HT.out.renew ((hkd.trans hk8).trans hk9) hT9 (by omega) (fun g hg => by have := hv8 g hg; omega) (by omega) (fun g hg => by have := hv9 g hg; omega) HL'.out HL'.out
              have HTT := Lib.hid hTT
              obtain ⟨M8, hM8⟩ : ∃ M8, MemS.new M'.L = M8 := ⟨_, rfl⟩
              have hst8 : M8.st = 0 := by rw [← hM8]; rfl
              have hl8 : M8.L.length = 48 := by rw [← hM8]; exact HL'.out
              rw [hM8] at HTT
              obtain ⟨M9, h9, hd9'⟩ : ∃ M9 h9, tkDrop ⟨2, 2, 4, 0, 2⟩ M8 ⟨t1, l1, s1, rd, x1⟩ = (M9, h9) := ⟨_, _, rfl⟩
              have hl9 : M9.L.length = 48 := by have := tkDrop_len ⟨2, 2, 4, 0, 2⟩ M8 ⟨t1, l1, s1, rd, x1⟩; rw [hd9'] at this; exact this.trans hl8
              have hst9 : M9.st = 0 ∨ M9.st = 1 := by have := tkDrop_st ⟨2, 2, 4, 0, 2⟩ M8 ⟨t1, l1, s1, rd, x1⟩ hst8; rw [hd9'] at this; exact this
              obtain ⟨t2, l2, s2, r2, x2⟩ := h9
              have HM8 := Lib.hid (show sizeP ⟨2, 2, 4, 0, 2⟩ = (M8.L.length : Int) by rw [hl8, m8_size]; rfl)
              have HD9 := Lib.hid hd9'; have HL9 := Lib.hid hl9; have HST9 := Lib.hid hst9
              clear hd9' hl9 hst9 hst8 hl8 hM8 hTT hT9 hf8 hkd hd7 hd8 hd9 hcu8 hc0 hm8 ha8 hv8 hk8 hm9 ha9 hv9 hk9 hk7 hz7 hz8 HT HT1 HCU HCA
              go_upto_region 21 with fail
              have hT := HTT.out.no ((Keeps.refl NoS _).drew)
              have hS := hT.s; have p1 := hT.p1; have p2 := hT.p2; have f1 := hT.f1; have f2 := hT.f2; have ne12 := hT.ne
              clear hT HTT
              refine wp_region_held_drew (S := (fun w' => (w'.cell? ⟨B, 0, none⟩ = some (.int .i64 2) ∧ w'.cell? ⟨B, 1, none⟩ = some (.int .i64 2) ∧ w'.cell? ⟨B, 2, none⟩ = some (.int .i64 4) ∧ w'.cell? ⟨B, 3, none⟩ = some (.int .i64 0) ∧ w'.cell? ⟨B, 4, none⟩ = some (.int .i64 2)) ∧ (w'.cell? ⟨H, 0, none⟩ = some (.int .i64 t1) ∧ w'.cell? ⟨H, 1, none⟩ = some (.int .i64 l1) ∧ w'.cell? ⟨H, 2, none⟩ = some (.int .i64 s1) ∧ w'.cell? ⟨H, 3, none⟩ = some (.bool rd) ∧ w'.cell? ⟨H, 4, none⟩ = some (.int .i64 x1)))) (by kernel_rfl) (hS.cells) (fun hHeld => ?_)
              refine wpAnyH_take (i := 0) (v := ?_) (by simp only [List.getElem?_toArray, List.getElem?_cons_succ, List.getElem?_cons_zero]; rfl) (by kernel_rfl) (by kernel_rfl) (by kernel_rfl) (by exact fun _ _ _ h => h) (Or.inl ⟨by rfl, ?_⟩) hHeld ?_
              rotate_left
              · intro w hSw; (try dsimp only at hSw); go_simp; (try with_reducible rfl)
              try simp only [Act.put, List.setIfInBounds_toArray, List.set_cons_zero, List.set_cons_succ]
              refine wpAnyH_take (i := 1) (v := ?_) (by simp only [List.getElem?_toArray, List.getElem?_cons_succ, List.getElem?_cons_zero]; rfl) (by kernel_rfl) (by kernel_rfl) (by kernel_rfl) (by exact fun _ _ _ h => h) (Or.inl ⟨by rfl, ?_⟩) hHeld ?_
              rotate_left
              · intro w hSw; (try dsimp only at hSw); go_simp; (try with_reducible rfl)
              try simp only [Act.put, List.setIfInBounds_toArray, List.set_cons_zero, List.set_cons_succ]
              refine wpAnyH_take (i := 2) (v := ?_) (by simp only [List.getElem?_toArray, List.getElem?_cons_succ, List.getElem?_cons_zero]; rfl) (by kernel_rfl) (by kernel_rfl) (by kernel_rfl) (by exact fun _ _ _ h => h) (Or.inl ⟨by rfl, ?_⟩) hHeld ?_
              rotate_left
              · intro w hSw; (try dsimp only at hSw); go_simp; (try with_reducible rfl)
              try simp only [Act.put, List.setIfInBounds_toArray, List.set_cons_zero, List.set_cons_succ]
              refine wpAnyH_take (i := 4) (v := ?_) (by simp only [List.getElem?_toArray, List.getElem?_cons_succ, List.getElem?_cons_zero]; rfl) (by kernel_rfl) (by kernel_rfl) (by kernel_rfl) (by exact fun _ _ _ h => h) (Or.inl ⟨by rfl, ?_⟩) hHeld ?_
              rotate_left
              · intro w hSw; (try dsimp only at hSw); go_simp; (try with_reducible rfl)
              try simp only [Act.put, List.setIfInBounds_toArray, List.set_cons_zero, List.set_cons_succ]
              refine wpAnyH_take (i := 6) (v := ?_) (by simp only [List.getElem?_toArray, List.getElem?_cons_succ, List.getElem?_cons_zero]; rfl) (by kernel_rfl) (by kernel_rfl) (by kernel_rfl) (by exact fun _ _ _ h => h) (Or.inl ⟨by rfl, ?_⟩) hHeld ?_
              rotate_left
              · intro w hSw; (try dsimp only at hSw); go_simp; (try with_reducible rfl)
              try simp only [Act.put, List.setIfInBounds_toArray, List.set_cons_zero, List.set_cons_succ]
              refine wpAnyH_take (i := 7) (v := ?_) (by simp only [List.getElem?_toArray, List.getElem?_cons_succ, List.getElem?_cons_zero]; rfl) (by kernel_rfl) (by kernel_rfl) (by kernel_rfl) (by exact fun _ _ _ h => h) (Or.inl ⟨by rfl, ?_⟩) hHeld ?_
              rotate_left
              · intro w hSw; (try dsimp only at hSw); go_simp; (try with_reducible rfl)
              try simp only [Act.put, List.setIfInBounds_toArray, List.set_cons_zero, List.set_cons_succ]
              refine wpAnyH_ready (rs := [3]) (by kernel_rfl) (by simp) ?_
              refine AllReadyH.cons (by simp only [List.getElem?_toArray, List.getElem?_cons_succ, List.getElem?_cons_zero]; rfl) (fun kC hkC => ?_) AllReadyH.nil
              go_simp
              refine (drop_any 2 2 4 0 2 t1 l1 s1 rd x1 a2 v2 M8 _ hS.tw.s.m).mono ?_; rw [HD9.out]; unfold handV; dsimp only; rintro e3 wq ⟨rfl, hm, hkk⟩; have hS := hS.turnS hm hkk HL9.out; have p1 := p1.keep hkk f1.na; have p2 := p2.keep hkk f2.na; clear hm hkk
              (try go_wp2_with fail)
              refine hkC.out _ _ (hS.cells) (fun hHeld => ?_)
              clear hkC kC
              try simp only [Act.put, List.setIfInBounds_toArray, List.set_cons_zero, List.set_cons_succ]
              refine wpAnyH_ready (rs := [5]) (by kernel_rfl) (by simp) ?_
              refine AllReadyH.cons (by simp only [List.getElem?_toArray, List.getElem?_cons_succ, List.getElem?_cons_zero]; rfl) (fun kC hkC => ?_) AllReadyH.nil
              go_simp
              refine (ref_any ⟨2, 2, 4, 0, 2⟩ _).mono ?_; rintro e5 wq ⟨rfl, hkk⟩; have hS := hS.no hkk; have p1 := p1.keep hkk (fun f => f); have p2 := p2.keep hkk (fun f => f); clear hkk; unfold mapV; dsimp only
              (try go_wp2_with fail)
              refine hkC.out _ _ (hS.cells) (fun hHeld => ?_)
              clear hkC kC
              try simp only [Act.put, List.setIfInBounds_toArray, List.set_cons_zero, List.set_cons_succ]
              refine wpAnyH_ready (rs := [8]) (by kernel_rfl) (by simp) ?_
              refine AllReadyH.cons (by simp only [List.getElem?_toArray, List.getElem?_cons_succ, List.getElem?_cons_zero]; rfl) (fun kC hkC => ?_) AllReadyH.nil
              go_simp
              refine (rdrop_any 2 2 4 0 2 t1 l1 s1 rd x1 c2 u2 M8 _ hS.tw.r.m HM8.out).mono ?_; rw [HD9.out]; unfold handV; dsimp only; rintro e8 wq ⟨rfl, hm, hkk⟩; have hS := hS.turnR hm hkk HL9.out; have p1 := p1.keep hkk f1.nc; have p2 := p2.keep hkk f2.nc; clear hm hkk
              (try go_wp2_with fail)
              refine hkC.out _ _ (hS.cells) (fun hHeld => ?_)
              clear hkC kC
              try simp only [Act.put, List.setIfInBounds_toArray, List.set_cons_zero, List.set_cons_succ]
              refine wpAnyH_ready (rs := [9]) (by kernel_rfl) (by simp) ?_
              refine AllReadyH.cons (by simp only [List.getElem?_toArray, List.getElem?_cons_succ, List.getElem?_cons_zero]; rfl) (fun kC hkC => ?_) AllReadyH.nil
              obtain ⟨y0, y1, y2, y3, y4, yf0, yf1, yf2, yf3, yf4, yz⟩ := p1.cells; go_simp; have hS := hS.far f1 (keeps5 g1 t2 l2 s2 r2 x2); have p1 := p1.set5 (t' := t2) (l' := l2) (s' := s2) (r' := r2) (x' := x2); have p2 := p2.keep (keeps5 (wr := wq) g1 t2 l2 s2 r2 x2) (fun e => ne12 (by have e' : g2 = g1 := e; exact e'.symm)); generalize ((((wq.setCell ⟨g1, 0, none⟩ (.int .i64 t2)).setCell ⟨g1, 1, none⟩ (.int .i64 l2)).setCell ⟨g1, 2, none⟩ (.int .i64 s2)).setCell ⟨g1, 3, none⟩ (.bool r2)).setCell ⟨g1, 4, none⟩ (.int .i64 x2) = wq at *; clear y0 y1 y2 y3 y4 yf0 yf1 yf2 yf3 yf4 yz
              refine hkC.out _ _ (hS.cells) (fun hHeld => ?_)
              clear hkC kC
              try simp only [Act.put, List.setIfInBounds_toArray, List.set_cons_zero, List.set_cons_succ]
              refine wpAnyH_ready (rs := [10]) (by kernel_rfl) (by simp) ?_
              refine AllReadyH.cons (by simp only [List.getElem?_toArray, List.getElem?_cons_succ, List.getElem?_cons_zero]; rfl) (fun kC hkC => ?_) AllReadyH.nil
              obtain ⟨y0, y1, y2, y3, y4, yf0, yf1, yf2, yf3, yf4, yz⟩ := p2.cells; go_simp; have hS := hS.far f2 (keeps5 g2 t2 l2 s2 r2 x2); have p2 := p2.set5 (t' := t2) (l' := l2) (s' := s2) (r' := r2) (x' := x2); have p1 := p1.keep (keeps5 (wr := wq) g2 t2 l2 s2 r2 x2) (fun e => ne12 (by have e' : g1 = g2 := e; exact e')); generalize ((((wq.setCell ⟨g2, 0, none⟩ (.int .i64 t2)).setCell ⟨g2, 1, none⟩ (.int .i64 l2)).setCell ⟨g2, 2, none⟩ (.int .i64 s2)).setCell ⟨g2, 3, none⟩ (.bool r2)).setCell ⟨g2, 4, none⟩ (.int .i64 x2) = wq at *; clear y0 y1 y2 y3 y4 yf0 yf1 yf2 yf3 yf4 yz
              refine hkC.out _ _ (hS.cells) (fun hHeld => ?_)
              clear hkC kC
              try simp only [Act.put, List.setIfInBounds_toArray, List.set_cons_zero, List.set_cons_succ]
              refine wpAnyH_done (by kernel_rfl) ?_ _
              go_wp2_with fail
              go_meet
              exact ⟨a2, c2, v2, u2, M9, 0, t2, l2, s2, r2, x2, rfl, rfl, rfl, ⟨hS, p1, p2, f1, f2, ne12⟩, by rw [IntWalk.i64_in _ (by have := HST9.out; omega)]; have := HST9.out; omega⟩
          case rest =>
            clear HT HL' HST' HN0
            obtain ⟨a2, c2, v2, u2, M2, N2, t2, l2, s2, r2, x2, rfl, rfl, rfl, hT, hle⟩ := hcut
            have hdc : decide (IntKind.i64.wrap (M2.st - N2) ≤ 1) = true := decide_eq_true hle
            obtain ⟨ib, hib⟩ : ∃ ib, idleB ⟨2, 2, 4, 0, 2⟩ M2 l1 = ib := ⟨_, rfl⟩
            have hif : idleF ⟨2, 2, 4, 0, 2⟩ M2 l1 = ib := (idle_eq hT.s.len l1).trans hib
            have HIB := Lib.hid hib; have HIF := Lib.hid hif
            have hTd := hT.no ((Keeps.refl NoS _).drew)
            clear hib hif hT hle
            go_wp2_with fail
            refine wp_region_held_drew (S := (fun w' => (w'.cell? ⟨B, 0, none⟩ = some (.int .i64 2) ∧ w'.cell? ⟨B, 1, none⟩ = some (.int .i64 2) ∧ w'.cell? ⟨B, 2, none⟩ = some (.int .i64 4) ∧ w'.cell? ⟨B, 3, none⟩ = some (.int .i64 0) ∧ w'.cell? ⟨B, 4, none⟩ = some (.int .i64 2)) ∧ (w'.cell? ⟨H, 0, none⟩ = some (.int .i64 t1) ∧ w'.cell? ⟨H, 1, none⟩ = some (.int .i64 l1) ∧ w'.cell? ⟨H, 2, none⟩ = some (.int .i64 s1) ∧ w'.cell? ⟨H, 3, none⟩ = some (.bool rd) ∧ w'.cell? ⟨H, 4, none⟩ = some (.int .i64 x1)) ∧ (w'.cell? ⟨g1, 0, none⟩ = some (.int .i64 t2) ∧ w'.cell? ⟨g1, 1, none⟩ = some (.int .i64 l2) ∧ w'.cell? ⟨g1, 2, none⟩ = some (.int .i64 s2) ∧ w'.cell? ⟨g1, 3, none⟩ = some (.bool r2) ∧ w'.cell? ⟨g1, 4, none⟩ = some (.int .i64 x2)) ∧ (w'.cell? ⟨g2, 0, none⟩ = some (.int .i64 t2) ∧ w'.cell? ⟨g2, 1, none⟩ = some (.int .i64 l2) ∧ w'.cell? ⟨g2, 2, none⟩ = some (.int .i64 s2) ∧ w'.cell? ⟨g2, 3, none⟩ = some (.bool r2) ∧ w'.cell? ⟨g2, 4, none⟩ = some (.int .i64 x2)))) (by kernel_rfl) (hTd.cells) (fun hHeld => ?_)
            refine wpAnyH_ready (rs := [0]) (by kernel_rfl) (by simp) ?_
            refine AllReadyH.cons (by simp only [List.getElem?_toArray, List.getElem?_cons_succ, List.getElem?_cons_zero]; rfl) (fun kC hkC => ?_) AllReadyH.nil
            go_simp
            refine (told8_any _).mono ?_; rintro e x1' ⟨rfl, hkk⟩; have hT1 := hTd.no hkk; clear hkk
            (try go_wp2_with fail)
            refine hkC.out _ _ (hT1.cells) (fun hHeld => ?_)
            clear hkC kC
            try simp only [Act.put, List.setIfInBounds_toArray, List.set_cons_zero, List.set_cons_succ]
            refine wpAnyH_take (i := 1) (v := ?_) (by simp only [List.getElem?_toArray, List.getElem?_cons_succ, List.getElem?_cons_zero]; rfl) (by kernel_rfl) (by kernel_rfl) (by kernel_rfl) (by exact fun _ _ _ h => h) (Or.inl ⟨by rfl, ?_⟩) hHeld ?_
            rotate_left
            · intro w hSw; (try dsimp only at hSw); go_simp; (try with_reducible rfl)
            try simp only [Act.put, List.setIfInBounds_toArray, List.set_cons_zero, List.set_cons_succ]
            refine wpAnyH_take (i := 2) (v := ?_) (by simp only [List.getElem?_toArray, List.getElem?_cons_succ, List.getElem?_cons_zero]; rfl) (by kernel_rfl) (by kernel_rfl) (by kernel_rfl) (by exact fun _ _ _ h => h) (Or.inl ⟨by rfl, ?_⟩) hHeld ?_
            rotate_left
            · intro w hSw; (try dsimp only at hSw); go_simp; (try with_reducible rfl)
            try simp only [Act.put, List.setIfInBounds_toArray, List.set_cons_zero, List.set_cons_succ]
            refine wpAnyH_take (i := 3) (v := ?_) (by simp only [List.getElem?_toArray, List.getElem?_cons_succ, List.getElem?_cons_zero]; rfl) (by kernel_rfl) (by kernel_rfl) (by kernel_rfl) (by exact fun _ _ _ h => h) (Or.inl ⟨by rfl, ?_⟩) hHeld ?_
            rotate_left
            · intro w hSw; (try dsimp only at hSw); go_simp; (try with_reducible rfl)
            try simp only [Act.put, List.setIfInBounds_toArray, List.set_cons_zero, List.set_cons_succ]
            refine wpAnyH_take (i := 4) (v := ?_) (by simp only [List.getElem?_toArray, List.getElem?_cons_succ, List.getElem?_cons_zero]; rfl) (by kernel_rfl) (by kernel_rfl) (by kernel_rfl) (by exact fun _ _ _ h => h) (Or.inl ⟨by rfl, ?_⟩) hHeld ?_
            rotate_left
            · intro w hSw; (try dsimp only at hSw); go_simp; (try with_reducible rfl)
            try simp only [Act.put, List.setIfInBounds_toArray, List.set_cons_zero, List.set_cons_succ]
            refine wpAnyH_take (i := 5) (v := ?_) (by simp only [List.getElem?_toArray, List.getElem?_cons_succ, List.getElem?_cons_zero]; rfl) (by kernel_rfl) (by kernel_rfl) (by kernel_rfl) (by exact fun _ _ _ h => h) (Or.inl ⟨by rfl, ?_⟩) hHeld ?_
            rotate_left
            · intro w hSw; (try dsimp only at hSw); go_simp; (try with_reducible rfl)
            try simp only [Act.put, List.setIfInBounds_toArray, List.set_cons_zero, List.set_cons_succ]
            refine wpAnyH_take (i := 6) (v := ?_) (by simp only [List.getElem?_toArray, List.getElem?_cons_succ, List.getElem?_cons_zero]; rfl) (by kernel_rfl) (by kernel_rfl) (by kernel_rfl) (by exact fun _ _ _ h => h) (Or.inl ⟨by rfl, ?_⟩) hHeld ?_
            rotate_left
            · intro w hSw; (try dsimp only at hSw); go_simp; (try with_reducible rfl)
            try simp only [Act.put, List.setIfInBounds_toArray, List.set_cons_zero, List.set_cons_succ]
            refine wpAnyH_take (i := 7) (v := ?_) (by simp only [List.getElem?_toArray, List.getElem?_cons_succ, List.getElem?_cons_zero]; rfl) (by kernel_rfl) (by kernel_rfl) (by kernel_rfl) (by exact fun _ _ _ h => h) (Or.inl ⟨by rfl, ?_⟩) hHeld ?_
            rotate_left
            · intro w hSw; (try dsimp only at hSw); go_simp; (try with_reducible rfl)
            try simp only [Act.put, List.setIfInBounds_toArray, List.set_cons_zero, List.set_cons_succ]
            refine wpAnyH_take (i := 8) (v := ?_) (by simp only [List.getElem?_toArray, List.getElem?_cons_succ, List.getElem?_cons_zero]; rfl) (by kernel_rfl) (by kernel_rfl) (by kernel_rfl) (by exact fun _ _ _ h => h) (Or.inl ⟨by rfl, ?_⟩) hHeld ?_
            rotate_left
            · intro w hSw; (try dsimp only at hSw); go_simp; (try with_reducible rfl)
            try simp only [Act.put, List.setIfInBounds_toArray, List.set_cons_zero, List.set_cons_succ]
            refine wpAnyH_ready (rs := [9]) (by kernel_rfl) (by simp) ?_
            refine AllReadyH.cons (by simp only [List.getElem?_toArray, List.getElem?_cons_succ, List.getElem?_cons_zero]; rfl) (fun kC hkC => ?_) AllReadyH.nil
            go_simp
            refine (same_any a2 c2 v2 u2 M2 M2 _ hT1.s.tw.s.m hT1.s.tw.r.m rfl).mono ?_; rintro e x2' ⟨rfl, hkk⟩; have hT2 := hT1.no hkk; clear hkk
            (try go_wp2_with fail)
            refine hkC.out _ _ (hT2.cells) (fun hHeld => ?_)
            clear hkC kC
            try simp only [Act.put, List.setIfInBounds_toArray, List.set_cons_zero, List.set_cons_succ]
            refine wpAnyH_take (i := 10) (v := ?_) (by simp only [List.getElem?_toArray, List.getElem?_cons_succ, List.getElem?_cons_zero]; rfl) (by kernel_rfl) (by kernel_rfl) (by kernel_rfl) (by exact fun _ _ _ h => h) (Or.inl ⟨by rfl, ?_⟩) hHeld ?_
            rotate_left
            · intro w hSw; (try dsimp only at hSw); go_simp; (try with_reducible rfl)
            try simp only [Act.put, List.setIfInBounds_toArray, List.set_cons_zero, List.set_cons_succ]
            refine wpAnyH_take (i := 11) (v := ?_) (by simp only [List.getElem?_toArray, List.getElem?_cons_succ, List.getElem?_cons_zero]; rfl) (by kernel_rfl) (by kernel_rfl) (by kernel_rfl) (by exact fun _ _ _ h => h) (Or.inl ⟨by rfl, ?_⟩) hHeld ?_
            rotate_left
            · intro w hSw; (try dsimp only at hSw); go_simp; (try with_reducible rfl)
            try simp only [Act.put, List.setIfInBounds_toArray, List.set_cons_zero, List.set_cons_succ]
            refine wpAnyH_take (i := 12) (v := ?_) (by simp only [List.getElem?_toArray, List.getElem?_cons_succ, List.getElem?_cons_zero]; rfl) (by kernel_rfl) (by kernel_rfl) (by kernel_rfl) (by exact fun _ _ _ h => h) (Or.inl ⟨by rfl, ?_⟩) hHeld ?_
            rotate_left
            · intro w hSw; (try dsimp only at hSw); go_simp; (try with_reducible rfl)
            try simp only [Act.put, List.setIfInBounds_toArray, List.set_cons_zero, List.set_cons_succ]
            refine wpAnyH_take (i := 14) (v := ?_) (by simp only [List.getElem?_toArray, List.getElem?_cons_succ, List.getElem?_cons_zero]; rfl) (by kernel_rfl) (by kernel_rfl) (by kernel_rfl) (by exact fun _ _ _ h => h) (Or.inl ⟨by rfl, ?_⟩) hHeld ?_
            rotate_left
            · intro w hSw; (try dsimp only at hSw); go_simp; (try with_reducible rfl)
            try simp only [Act.put, List.setIfInBounds_toArray, List.set_cons_zero, List.set_cons_succ]
            refine wpAnyH_ready (rs := [13]) (by kernel_rfl) (by simp) ?_
            refine AllReadyH.cons (by simp only [List.getElem?_toArray, List.getElem?_cons_succ, List.getElem?_cons_zero]; rfl) (fun kC hkC => ?_) AllReadyH.nil
            go_simp
            refine (steps_any a2 v2 M2 _ hT2.s.tw.s.m).mono ?_; rintro e x3' ⟨rfl, rfl⟩
            (try go_wp2_with fail)
            refine hkC.out _ _ (hT2.cells) (fun hHeld => ?_)
            clear hkC kC
            try simp only [Act.put, List.setIfInBounds_toArray, List.set_cons_zero, List.set_cons_succ]
            refine wpAnyH_take (i := 15) (v := ?_) (by simp only [List.getElem?_toArray, List.getElem?_cons_succ, List.getElem?_cons_zero]; rfl) (by kernel_rfl) (by kernel_rfl) (by kernel_rfl) (by exact fun _ _ _ h => h) (Or.inl ⟨by rfl, ?_⟩) hHeld ?_
            rotate_left
            · intro w hSw; (try dsimp only at hSw); go_simp; (try with_reducible rfl)
            try simp only [Act.put, List.setIfInBounds_toArray, List.set_cons_zero, List.set_cons_succ]
            refine wpAnyH_take (i := 16) (v := ?_) (by simp only [List.getElem?_toArray, List.getElem?_cons_succ, List.getElem?_cons_zero]; rfl) (by kernel_rfl) (by kernel_rfl) (by kernel_rfl) (by exact fun _ _ _ h => h) (Or.inl ⟨by rfl, ?_⟩) hHeld ?_
            rotate_left
            · intro w hSw; (try dsimp only at hSw); go_simp; (try with_reducible rfl)
            try simp only [Act.put, List.setIfInBounds_toArray, List.set_cons_zero, List.set_cons_succ]
            refine wpAnyH_take (i := 17) (v := ?_) (by simp only [List.getElem?_toArray, List.getElem?_cons_succ, List.getElem?_cons_zero]; rfl) (by kernel_rfl) (by kernel_rfl) (by kernel_rfl) (by exact fun _ _ _ h => h) (Or.inl ⟨by rfl, ?_⟩) hHeld ?_
            rotate_left
            · intro w hSw; (try dsimp only at hSw); go_simp; (try with_reducible rfl)
            try simp only [Act.put, List.setIfInBounds_toArray, List.set_cons_zero, List.set_cons_succ]
            refine wpAnyH_take (i := 18) (v := ?_) (by simp only [List.getElem?_toArray, List.getElem?_cons_succ, List.getElem?_cons_zero]; rfl) (by kernel_rfl) (by kernel_rfl) (by kernel_rfl) (by exact fun _ _ _ h => h) (Or.inl ⟨by rfl, ?_⟩) hHeld ?_
            rotate_left
            · intro w hSw; (try dsimp only at hSw); go_simp; (try with_reducible rfl)
            try simp only [Act.put, List.setIfInBounds_toArray, List.set_cons_zero, List.set_cons_succ]
            refine wpAnyH_take (i := 19) (v := ?_) (by simp only [List.getElem?_toArray, List.getElem?_cons_succ, List.getElem?_cons_zero]; rfl) (by kernel_rfl) (by kernel_rfl) (by kernel_rfl) (by exact fun _ _ _ h => h) (Or.inl ⟨by rfl, ?_⟩) hHeld ?_
            rotate_left
            · intro w hSw; (try dsimp only at hSw); go_simp; (try with_reducible rfl)
            try simp only [Act.put, List.setIfInBounds_toArray, List.set_cons_zero, List.set_cons_succ]
            refine wpAnyH_take (i := 20) (v := ?_) (by simp only [List.getElem?_toArray, List.getElem?_cons_succ, List.getElem?_cons_zero]; rfl) (by kernel_rfl) (by kernel_rfl) (by kernel_rfl) (by exact fun _ _ _ h => h) (Or.inl ⟨by rfl, ?_⟩) hHeld ?_
            rotate_left
            · intro w hSw; (try dsimp only at hSw); go_simp; (try with_reducible rfl)
            try simp only [Act.put, List.setIfInBounds_toArray, List.set_cons_zero, List.set_cons_succ]
            refine wpAnyH_take (i := 21) (v := ?_) (by simp only [List.getElem?_toArray, List.getElem?_cons_succ, List.getElem?_cons_zero]; rfl) (by kernel_rfl) (by kernel_rfl) (by kernel_rfl) (by exact fun _ _ _ h => h) (Or.inl ⟨by rfl, ?_⟩) hHeld ?_
            rotate_left
            · intro w hSw; (try dsimp only at hSw); go_simp; (try with_reducible rfl)
            try simp only [Act.put, List.setIfInBounds_toArray, List.set_cons_zero, List.set_cons_succ]
            refine wpAnyH_take (i := 22) (v := ?_) (by simp only [List.getElem?_toArray, List.getElem?_cons_succ, List.getElem?_cons_zero]; rfl) (by kernel_rfl) (by kernel_rfl) (by kernel_rfl) (by exact fun _ _ _ h => h) (Or.inl ⟨by rfl, ?_⟩) hHeld ?_
            rotate_left
            · intro w hSw; (try dsimp only at hSw); go_simp; (try with_reducible rfl)
            try simp only [Act.put, List.setIfInBounds_toArray, List.set_cons_zero, List.set_cons_succ]
            refine wpAnyH_take (i := 24) (v := ?_) (by simp only [List.getElem?_toArray, List.getElem?_cons_succ, List.getElem?_cons_zero]; rfl) (by kernel_rfl) (by kernel_rfl) (by kernel_rfl) (by exact fun _ _ _ h => h) (Or.inl ⟨by rfl, ?_⟩) hHeld ?_
            rotate_left
            · intro w hSw; (try dsimp only at hSw); go_simp; (try with_reducible rfl)
            try simp only [Act.put, List.setIfInBounds_toArray, List.set_cons_zero, List.set_cons_succ]
            refine wpAnyH_take (i := 26) (v := ?_) (by simp only [List.getElem?_toArray, List.getElem?_cons_succ, List.getElem?_cons_zero]; rfl) (by kernel_rfl) (by kernel_rfl) (by kernel_rfl) (by exact fun _ _ _ h => h) (Or.inl ⟨by rfl, ?_⟩) hHeld ?_
            rotate_left
            · intro w hSw; (try dsimp only at hSw); go_simp; (try with_reducible rfl)
            try simp only [Act.put, List.setIfInBounds_toArray, List.set_cons_zero, List.set_cons_succ]
            refine wpAnyH_take (i := 27) (v := ?_) (by simp only [List.getElem?_toArray, List.getElem?_cons_succ, List.getElem?_cons_zero]; rfl) (by kernel_rfl) (by kernel_rfl) (by kernel_rfl) (by exact fun _ _ _ h => h) (Or.inl ⟨by rfl, ?_⟩) hHeld ?_
            rotate_left
            · intro w hSw; (try dsimp only at hSw); go_simp; (try with_reducible rfl)
            try simp only [Act.put, List.setIfInBounds_toArray, List.set_cons_zero, List.set_cons_succ]
            refine wpAnyH_take (i := 28) (v := ?_) (by simp only [List.getElem?_toArray, List.getElem?_cons_succ, List.getElem?_cons_zero]; rfl) (by kernel_rfl) (by kernel_rfl) (by kernel_rfl) (by exact fun _ _ _ h => h) (Or.inl ⟨by rfl, ?_⟩) hHeld ?_
            rotate_left
            · intro w hSw; (try dsimp only at hSw); go_simp; (try with_reducible rfl)
            try simp only [Act.put, List.setIfInBounds_toArray, List.set_cons_zero, List.set_cons_succ]
            refine wpAnyH_ready (rs := [23]) (by kernel_rfl) (by simp) ?_
            refine AllReadyH.cons (by simp only [List.getElem?_toArray, List.getElem?_cons_succ, List.getElem?_cons_zero]; rfl) (fun kC hkC => ?_) AllReadyH.nil
            go_simp
            refine (idle_any 2 2 4 0 2 l1 a2 v2 M2 _ hT2.s.tw.s.m).mono ?_; rw [HIF.out]; rintro e x4' ⟨rfl, hkk⟩; have hT4 := hT2.no hkk; clear hkk
            (try go_wp2_with fail)
            refine hkC.out _ _ (hT4.cells) (fun hHeld => ?_)
            clear hkC kC
            try simp only [Act.put, List.setIfInBounds_toArray, List.set_cons_zero, List.set_cons_succ]
            refine wpAnyH_ready (rs := [25]) (by kernel_rfl) (by simp) ?_
            refine AllReadyH.cons (by simp only [List.getElem?_toArray, List.getElem?_cons_succ, List.getElem?_cons_zero]; rfl) (fun kC hkC => ?_) AllReadyH.nil
            go_simp
            refine (ref_any ⟨2, 2, 4, 0, 2⟩ _).mono ?_; rintro e x5' ⟨rfl, hkk⟩; have hT5 := hT4.no hkk; clear hkk; unfold mapV; dsimp only
            (try go_wp2_with fail)
            refine hkC.out _ _ (hT5.cells) (fun hHeld => ?_)
            clear hkC kC
            try simp only [Act.put, List.setIfInBounds_toArray, List.set_cons_zero, List.set_cons_succ]
            refine wpAnyH_ready (rs := [29]) (by kernel_rfl) (by simp) ?_
            refine AllReadyH.cons (by simp only [List.getElem?_toArray, List.getElem?_cons_succ, List.getElem?_cons_zero]; rfl) (fun kC hkC => ?_) AllReadyH.nil
            go_simp
            refine (ridle_any 2 2 4 0 2 l1 c2 u2 M2 _ hT5.s.tw.r.m).mono ?_; rw [HIB.out]; rintro e x6' ⟨rfl, hkk⟩; have hT6 := hT5.no hkk; clear hkk
            (try go_wp2_with fail)
            refine hkC.out _ _ (hT6.cells) (fun hHeld => ?_)
            clear hkC kC
            try simp only [Act.put, List.setIfInBounds_toArray, List.set_cons_zero, List.set_cons_succ]
            refine wpAnyH_take (i := 30) (v := ?_) (by simp only [List.getElem?_toArray, List.getElem?_cons_succ, List.getElem?_cons_zero]; rfl) (by kernel_rfl) (by kernel_rfl) (by kernel_rfl) (by exact fun _ _ _ h => h) (Or.inl ⟨by rfl, ?_⟩) hHeld ?_
            rotate_left
            · intro w hSw; (try dsimp only at hSw); go_simp; (try with_reducible rfl)
            try simp only [Act.put, List.setIfInBounds_toArray, List.set_cons_zero, List.set_cons_succ]
            refine wpAnyH_take (i := 31) (v := ?_) (by simp only [List.getElem?_toArray, List.getElem?_cons_succ, List.getElem?_cons_zero]; rfl) (by kernel_rfl) (by kernel_rfl) (by kernel_rfl) (by exact fun _ _ _ h => h) (Or.inl ⟨by rfl, ?_⟩) hHeld ?_
            rotate_left
            · intro w hSw; (try dsimp only at hSw); go_simp; (try with_reducible rfl)
            try simp only [Act.put, List.setIfInBounds_toArray, List.set_cons_zero, List.set_cons_succ]
            refine wpAnyH_take (i := 32) (v := ?_) (by simp only [List.getElem?_toArray, List.getElem?_cons_succ, List.getElem?_cons_zero]; rfl) (by kernel_rfl) (by kernel_rfl) (by kernel_rfl) (by exact fun _ _ _ h => h) (Or.inl ⟨by rfl, ?_⟩) hHeld ?_
            rotate_left
            · intro w hSw; (try dsimp only at hSw); go_simp; (try with_reducible rfl)
            try simp only [Act.put, List.setIfInBounds_toArray, List.set_cons_zero, List.set_cons_succ]
            refine wpAnyH_take (i := 33) (v := ?_) (by simp only [List.getElem?_toArray, List.getElem?_cons_succ, List.getElem?_cons_zero]; rfl) (by kernel_rfl) (by kernel_rfl) (by kernel_rfl) (by exact fun _ _ _ h => h) (Or.inl ⟨by rfl, ?_⟩) hHeld ?_
            rotate_left
            · intro w hSw; (try dsimp only at hSw); go_simp; (try with_reducible rfl)
            try simp only [Act.put, List.setIfInBounds_toArray, List.set_cons_zero, List.set_cons_succ]
            refine wpAnyH_take (i := 34) (v := ?_) (by simp only [List.getElem?_toArray, List.getElem?_cons_succ, List.getElem?_cons_zero]; rfl) (by kernel_rfl) (by kernel_rfl) (by kernel_rfl) (by exact fun _ _ _ h => h) (Or.inl ⟨by rfl, ?_⟩) hHeld ?_
            rotate_left
            · intro w hSw; (try dsimp only at hSw); go_simp; (try with_reducible rfl)
            try simp only [Act.put, List.setIfInBounds_toArray, List.set_cons_zero, List.set_cons_succ]
            refine wpAnyH_take (i := 36) (v := ?_) (by simp only [List.getElem?_toArray, List.getElem?_cons_succ, List.getElem?_cons_zero]; rfl) (by kernel_rfl) (by kernel_rfl) (by kernel_rfl) (by exact fun _ _ _ h => h) (Or.inl ⟨by rfl, ?_⟩) hHeld ?_
            rotate_left
            · intro w hSw; (try dsimp only at hSw); go_simp; (try with_reducible rfl)
            try simp only [Act.put, List.setIfInBounds_toArray, List.set_cons_zero, List.set_cons_succ]
            refine wpAnyH_ready (rs := [35]) (by kernel_rfl) (by simp) ?_
            refine AllReadyH.cons (by simp only [List.getElem?_toArray, List.getElem?_cons_succ, List.getElem?_cons_zero]; rfl) (fun kC hkC => ?_) AllReadyH.nil
            go_simp
            refine (takenil_any 2 2 4 0 2 t1 l1 s1 rd x1 m8_size _).mono ?_; rintro e x7' ⟨rfl, hkk⟩; have hT7 := hT6.no hkk; clear hkk
            (try go_wp2_with fail)
            refine hkC.out _ _ (hT7.cells) (fun hHeld => ?_)
            clear hkC kC
            try simp only [Act.put, List.setIfInBounds_toArray, List.set_cons_zero, List.set_cons_succ]
            refine wpAnyH_take (i := 37) (v := ?_) (by simp only [List.getElem?_toArray, List.getElem?_cons_succ, List.getElem?_cons_zero]; rfl) (by kernel_rfl) (by kernel_rfl) (by kernel_rfl) (by exact fun _ _ _ h => h) (Or.inl ⟨by rfl, ?_⟩) hHeld ?_
            rotate_left
            · intro w hSw; (try dsimp only at hSw); go_simp; (try with_reducible rfl)
            try simp only [Act.put, List.setIfInBounds_toArray, List.set_cons_zero, List.set_cons_succ]
            refine wpAnyH_take (i := 38) (v := ?_) (by simp only [List.getElem?_toArray, List.getElem?_cons_succ, List.getElem?_cons_zero]; rfl) (by kernel_rfl) (by kernel_rfl) (by kernel_rfl) (by exact fun _ _ _ h => h) (Or.inl ⟨by rfl, ?_⟩) hHeld ?_
            rotate_left
            · intro w hSw; (try dsimp only at hSw); go_simp; (try with_reducible rfl)
            try simp only [Act.put, List.setIfInBounds_toArray, List.set_cons_zero, List.set_cons_succ]
            refine wpAnyH_take (i := 39) (v := ?_) (by simp only [List.getElem?_toArray, List.getElem?_cons_succ, List.getElem?_cons_zero]; rfl) (by kernel_rfl) (by kernel_rfl) (by kernel_rfl) (by exact fun _ _ _ h => h) (Or.inl ⟨by rfl, ?_⟩) hHeld ?_
            rotate_left
            · intro w hSw; (try dsimp only at hSw); go_simp; (try with_reducible rfl)
            try simp only [Act.put, List.setIfInBounds_toArray, List.set_cons_zero, List.set_cons_succ]
            refine wpAnyH_done (by kernel_rfl) ?_ _
            go_wp2_with fail
            go_ret
            exact ⟨by simp, hT7.s.tw.s.kp⟩
end Go.Proofs.Ytodaiogefgdcpaa
