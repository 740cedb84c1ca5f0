/- whoever goes on, and whoever drops: hand by hand as the document says (the walk) -/
import Derived.Test.YtpledaolffmjdaaTicketPlain
import Derived.Test.YtpledaolffmjdaaHeld
namespace Go.Proofs.Ytpledaolffmjdaa
open Go.RowKit
theorem hput_lt (t : Nat) (ht : t < 4) : ∀ k, k < 4 → hput (fun k => if k < t then (⟨k, 1, 0, false, 0⟩ : HandS) else hand0) t ⟨t, 1, 0, false, 0⟩ k = if k < t + 1 then (⟨k, 1, 0, false, 0⟩ : HandS) else hand0 := by
  intro k hk
  unfold hput
  by_cases e : k = t
  · subst e; simp
  · by_cases e2 : k < t
    · simp only [if_neg e, if_pos e2, if_pos (show k < t + 1 by omega)]
    · simp only [if_neg e, if_neg e2, if_neg (show ¬ k < t + 1 by omega)]
theorem mapC {w : World} {B : Nat} (h : MapAt w B 2 2 4 0 2) : (w.cell? ⟨B, 0, none⟩ = some (.int .i64 2) ∧ w.cell? ⟨B, 1, none⟩ = some (.int .i64 2) ∧ w.cell? ⟨B, 2, none⟩ = some (.int .i64 4) ∧ w.cell? ⟨B, 3, none⟩ = some (.int .i64 0) ∧ w.cell? ⟨B, 4, none⟩ = some (.int .i64 2)) := h
/-- who goes on -/
theorem pick4 (x : Int) : ∃ t : Nat, t < 4 ∧ (IntKind.u64.wrap x).tmod 4 = (t : Int) := by
  obtain ⟨h1, h2⟩ := u64_tmod_bd x 4 (by omega)
  exact ⟨((IntKind.u64.wrap x).tmod 4).toNat, by omega, by omega⟩
theorem HandC {n : Nat} {w : World} {G : Nat} {f : Nat → HandS} (h : HandsAt n w G f) {t : Nat} (ht : t < n) {a b s : Int} {r : Bool} {x : Int} (hf : f t = ⟨a, b, s, r, x⟩) :
    w.cell? ⟨G, t * 5, none⟩ = some (.int .i64 a) ∧ w.cell? ⟨G, t * 5 + 1, none⟩ = some (.int .i64 b) ∧ w.cell? ⟨G, t * 5 + 2, none⟩ = some (.int .i64 s) ∧ w.cell? ⟨G, t * 5 + 3, none⟩ = some (.bool r) ∧ w.cell? ⟨G, t * 5 + 4, none⟩ = some (.int .i64 x) := by
  have := h.cell t ht
  rw [hf] at this
  exact this
set_option maxHeartbeats 40000000 in
set_option maxRecDepth 100000 in
theorem ticketRuns_walk (w : World) (p0 : Value) (L : List Int) (f0 : InI w p0 L) (_f1 : ∀ k, k < L.length → (Lit.int .i64 (L.getD k 0)).wf = true) : Calls Try.prog 5 #[p0] w fun e w' => e = .returned (.bool true) ∧ Keeps NoS w w' := by
  obtain ⟨p, cap, rfl, hn, hc, _⟩ := f0
  have HW := Lib.hid hc
  clear hc
  by_cases h200 : L.length ≤ 200
  case neg =>
    go_enter Try.func5, Try.ntmps5
    have h200' : (200 : Int) < (L.length : Int) := by omega
    go_wp2_with (go_at_call 15; refine (told8_any _).mono ?_; rintro e w1 ⟨rfl, hk1⟩)
    go_ret
    exact ⟨rfl, hk1⟩
  go_enter Try.func5, Try.ntmps5
  go_wp2_with (first
    | (go_at_call 16; refine (map8_any _).mono ?_; rintro e w1 ⟨rfl, hk1⟩))
  have hB := mapAt_new w1 2 2 4 0 2 25
  have hk1' := hk1.alloc (.cells #[.int .i64 2, .int .i64 2, .int .i64 4, .int .i64 0, .int .i64 2] 25)
  obtain ⟨B, hBe⟩ : ∃ B, w1.heap.size = B := ⟨_, rfl⟩
  have hBw : w.heap.size ≤ B := by rw [← hBe]; exact hk1.size
  have hBl : B < (w1.alloc (.cells #[.int .i64 2, .int .i64 2, .int .i64 4, .int .i64 0, .int .i64 2] 25)).heap.size := by rw [← hBe]; simp
  rw [hBe] at hB
  rw [hBe]
  generalize w1.alloc (.cells #[.int .i64 2, .int .i64 2, .int .i64 4, .int .i64 0, .int .i64 2] 25) = W at *
  refine (both_any 2 2 4 0 2 48 m8_size (by decide) (by decide) W).mono ?_
  rintro e w2 ⟨a, c, v, u, rfl, hT⟩
  have HBm := Lib.hid (fun w' (h : Keeps NoS W w') => mapC (hB.keep h (fun f => f)))
  obtain ⟨G, hG⟩ : ∃ G, w2.heap.size = G := ⟨_, rfl⟩
  obtain ⟨w3, hw3, hr, hA, hGl⟩ := runS_new hG hT
  have HR := Lib.hid hr; have HA := Lib.hid hA; have HW3 := Lib.hid hw3
  have HWk := Lib.hid hk1'
  have hWB : W.heap.size ≤ G := hA.w
  clear hBe hk1 hk1' hr hA hT hB hw3
  go_wp2_with fail
  rw [HW3.out]
  (try rw [hG])
  clear hG HW3
  go_loopw [8] (fun i wr => ∃ t : Nat, t ≤ 4 ∧ i = .int .i64 t ∧ RunS W wr a c v u (M0 48) G (fun k => if k < t then ⟨k, 1, 0, false, 0⟩ else hand0)) (fun i _ => 4 - (intOf i).toNat)
  case atStart => exact ⟨0, by omega, rfl, by simpa using HR.out⟩
  case round =>
    obtain ⟨t, ht, rfl, hr⟩ := hrel
    have HX := Lib.hid hr
    clear hr HR
    by_cases h4 : t < 4
    · have hxl := HX.out.x.lt
      have hyl := HX.out.y.lt
      obtain ⟨x0, x1, x2, x3, x4⟩ := HX.out.x.cell t h4
      have f0 := HX.out.x.free (t * 5)
      have f1 := HX.out.x.free (t * 5 + 1)
      have f2 := HX.out.x.free (t * 5 + 2)
      have f3 := HX.out.x.free (t * 5 + 3)
      have f4 := HX.out.x.free (t * 5 + 4)
      go_upto_region 12 with fail
      have hx1 := HX.out.x.setH t h4 ⟨t, 1, 0, false, 0⟩
      have hy1 := HX.out.y.outH (G' := G) (by omega) t ⟨t, 1, 0, false, 0⟩
      have hT1 := HX.out.t.setH HA.out (Nat.le_refl _) t ⟨t, 1, 0, false, 0⟩
      unfold setH at hx1 hy1 hT1
      dsimp only at hx1 hy1 hT1
      generalize ((((wr.setCell ⟨G, t * 5, none⟩ (.int .i64 t)).setCell ⟨G, t * 5 + 1, none⟩ (.int .i64 1)).setCell ⟨G, t * 5 + 2, none⟩ (.int .i64 0)).setCell ⟨G, t * 5 + 3, none⟩ (.bool false)).setCell ⟨G, t * 5 + 4, none⟩ (.int .i64 0) = wz at *
      clear x0 x1 x2 x3 x4 f0 f1 f2 f3 f4
      obtain ⟨x0, x1, x2, x3, x4⟩ := hx1.cell t h4
      simp only [hput, if_true] at x0 x1 x2 x3 x4
      have f0 := hy1.free (t * 5)
      have f1 := hy1.free (t * 5 + 1)
      have f2 := hy1.free (t * 5 + 2)
      have f3 := hy1.free (t * 5 + 3)
      have f4 := hy1.free (t * 5 + 4)
      obtain ⟨y0, y1, y2, y3, y4⟩ := hy1.cell t h4
      have hyl1 := hy1.lt
      have HF := Lib.hid (show RunS W (setH wz (G + 1) t ⟨t, 1, 0, false, 0⟩) a c v u (M0 48) G (hput (fun k => if k < t then ⟨k, 1, 0, false, 0⟩ else hand0) t ⟨t, 1, 0, false, 0⟩) from ⟨hT1.setH HA.out (by omega) t _, hx1.outH (by omega) t _, hy1.setH t h4 _⟩)
      clear hx1 hy1 hT1 HX
      go_wp2_with fail
      go_roundw
      case rel => exact ⟨t + 1, by omega, by go_num, HF.out.congr (hput_lt t h4)⟩
      case measure => simp [intOf]; omega
    · have hr4 := HX.out.congr (g := fun k => ⟨k, 1, 0, false, 0⟩) (fun k hk => by simp only [if_pos (show k < t by omega)])
      have HR4 := Lib.hid hr4
      clear HX hr4
      go_wp2_with fail
      go_loopw [9] (fun i wq => ∃ (n : Nat) (M : MemS) (f : Nat → HandS), n ≤ L.length ∧ i = .int .i64 n ∧ RunS W wq a c v u M G f ∧ InvT 1 n M f) (fun i _ => L.length - (intOf i).toNat)
      case atStart => exact ⟨0, _, _, by omega, rfl, HR4.out, InvT.start 1 (by omega)⟩
      case round =>
        obtain ⟨n, M, f, hnl, rfl, hr, hi⟩ := hrel
        have HX := Lib.hid hr; have HI := Lib.hid hi
        clear hr hi HR4
        by_cases hlt : n < L.length
        · obtain ⟨b, off, rfl, hcs⟩ := HW.out (fun e => by rw [e] at hlt; simp at hlt)
          have cn := (HWk.out.trans HX.out.t.s.kp).cell (hcs n hlt) (fun f => f)
          clear hcs
          generalize L.getD n 0 = z at cn
          obtain ⟨t, ht, hz⟩ := pick4 z
          have ht1 : (0 : Int) ≤ (t : Int) := by omega
          have ht2 : (t : Int) < 4 := by omega
          have hh := HI.out.hand ht
          rw [show ((1 : Nat) : Int) = 1 from rfl] at hh
          have hs := (HI.out.hd t ht).2.2.2
          obtain ⟨x0, x1, x2, x3, x4⟩ := HX.out.x.cell t ht
          obtain ⟨y0, y1, y2, y3, y4⟩ := HX.out.y.cell t ht
          obtain ⟨m0, m1, m2, m3, m4⟩ := HBm.out _ HX.out.t.s.kp
          have h9 : (f t).s = 9 → InvT 1 (n + 1) (tkDrop ⟨2, 2, 4, 0, 2⟩ M (f t)).1 (hput f t (tkDrop ⟨2, 2, 4, 0, 2⟩ M (f t)).2) := HI.out.drop (by omega) (by omega) ht
          have h1 := HI.out.take (by omega) (by omega) ht
          rw [hh] at x0 x1 x2 x3 x4 y0 y1 y2 y3 y4 h1 h9
          dsimp only at x0 x1 x2 x3 x4 y0 y1 y2 y3 y4 h1 h9
          generalize (f t).s = s at *
          generalize (f t).x = x at *
          have HF := Lib.hid hh; have H1 := Lib.hid h1; have H9 := Lib.hid h9
          have hxl := HX.out.x.lt
          have hyl := HX.out.y.lt
          have f0 := HX.out.x.free (t * 5)
          have f1 := HX.out.x.free (t * 5 + 1)
          have f2 := HX.out.x.free (t * 5 + 2)
          have f3 := HX.out.x.free (t * 5 + 3)
          have f4 := HX.out.x.free (t * 5 + 4)
          have g0 := HX.out.y.free (t * 5)
          have g1 := HX.out.y.free (t * 5 + 1)
          have g2 := HX.out.y.free (t * 5 + 2)
          have g3 := HX.out.y.free (t * 5 + 3)
          have g4 := HX.out.y.free (t * 5 + 4)
          have hM := HI.out.len
          have HM := Lib.hid (show sizeP ⟨2, 2, 4, 0, 2⟩ = (M.L.length : Int) by rw [hM, m8_size]; rfl)
          clear hh h1 h9 hM
          obtain ⟨q, hq⟩ : ∃ q, ((IntKind.u64.wrap ((IntKind.u64.wrap z).tdiv 4)).tmod 2 == 0) = q := ⟨_, rfl⟩
          have hsp : (s = 9 ∧ q = true) ∨ (s = 9 ∧ q = false) ∨ ¬ s = 9 := by
            by_cases e : s = 9
            · cases q
              · exact .inr (.inl ⟨e, rfl⟩)
              · exact .inl ⟨e, rfl⟩
            · exact .inr (.inr e)
          clear hs
          rcases hsp with ⟨rfl, rfl⟩ | ⟨rfl, rfl⟩ | hne

          · go_wp2_with fail
            obtain ⟨M', h', hd⟩ : ∃ M' h', tkDrop ⟨2, 2, 4, 0, 2⟩ M ⟨t, 1, 9, false, x⟩ = (M', h') := ⟨_, _, rfl⟩
            obtain ⟨t', l', s', r', x'⟩ := h'
            have hI' := H9.out (by first | rfl | trivial)
            rw [hd] at hI'
            have HD := Lib.hid hd; have HI' := Lib.hid hI'
            clear hd hI'
            have hTd := HX.out.t.keep ((Keeps.refl NoS _).drew)
            refine wp_region_kept_drew 16 (fun w' => (w'.cell? ⟨G, t * 5, none⟩ = some (.int .i64 t) ∧ w'.cell? ⟨G, t * 5 + 1, none⟩ = some (.int .i64 1) ∧ w'.cell? ⟨G, t * 5 + 2, none⟩ = some (.int .i64 9) ∧ w'.cell? ⟨G, t * 5 + 3, none⟩ = some (.bool false) ∧ w'.cell? ⟨G, t * 5 + 4, none⟩ = some (.int .i64 x)) ∧ (w'.cell? ⟨(G + 1), t * 5, none⟩ = some (.int .i64 t) ∧ w'.cell? ⟨(G + 1), t * 5 + 1, none⟩ = some (.int .i64 1) ∧ w'.cell? ⟨(G + 1), t * 5 + 2, none⟩ = some (.int .i64 9) ∧ w'.cell? ⟨(G + 1), t * 5 + 3, none⟩ = some (.bool false) ∧ w'.cell? ⟨(G + 1), t * 5 + 4, none⟩ = some (.int .i64 x)) ∧ (w'.cell? ⟨B, 0, none⟩ = some (.int .i64 2) ∧ w'.cell? ⟨B, 1, none⟩ = some (.int .i64 2) ∧ w'.cell? ⟨B, 2, none⟩ = some (.int .i64 4) ∧ w'.cell? ⟨B, 3, none⟩ = some (.int .i64 0) ∧ w'.cell? ⟨B, 4, none⟩ = some (.int .i64 2))) 18 (fun w' => (w'.cell? ⟨(G + 1), t * 5, none⟩ = some (.int .i64 t) ∧ w'.cell? ⟨(G + 1), t * 5 + 1, none⟩ = some (.int .i64 1) ∧ w'.cell? ⟨(G + 1), t * 5 + 2, none⟩ = some (.int .i64 9) ∧ w'.cell? ⟨(G + 1), t * 5 + 3, none⟩ = some (.bool false) ∧ w'.cell? ⟨(G + 1), t * 5 + 4, none⟩ = some (.int .i64 x)) ∧ (w'.cell? ⟨B, 0, none⟩ = some (.int .i64 2) ∧ w'.cell? ⟨B, 1, none⟩ = some (.int .i64 2) ∧ w'.cell? ⟨B, 2, none⟩ = some (.int .i64 4) ∧ w'.cell? ⟨B, 3, none⟩ = some (.int .i64 0) ∧ w'.cell? ⟨B, 4, none⟩ = some (.int .i64 2))) (by kernel_rfl) (⟨⟨x0, x1, x2, x3, x4⟩, ⟨y0, y1, y2, y3, y4⟩, ⟨m0, m1, m2, m3, m4⟩⟩) (⟨⟨y0, y1, y2, y3, y4⟩, ⟨m0, m1, m2, m3, m4⟩⟩) (fun hK => ?_)
            refine wpAnyK_take1 (i := 0) (v := ?_) (by simp only [List.getElem?_toArray, List.getElem?_cons_succ, List.getElem?_cons_zero]; rfl) (by kernel_rfl) (by kernel_rfl) (by kernel_rfl) (by kernel_rfl) (by kernel_rfl) (by kernel_rfl) (by exact fun _ _ _ h => h) (Or.inl ⟨by rfl, ?_⟩) (hK _) ?_
            rotate_left
            · intro w hSw; (try dsimp only at hSw); go_simp; (try with_reducible rfl)
            try simp only [Act.put, List.setIfInBounds_toArray, List.set_cons_zero, List.set_cons_succ]
            refine wpAnyK_take2 (i := 1) (v := ?_) (by simp only [List.getElem?_toArray, List.getElem?_cons_succ, List.getElem?_cons_zero]; rfl) (by kernel_rfl) (by kernel_rfl) (by kernel_rfl) (by kernel_rfl) (by kernel_rfl) (by kernel_rfl) (by exact fun _ _ _ h => h) (Or.inl ⟨by rfl, ?_⟩) (hK _) ?_
            rotate_left
            · intro w hSw; (try dsimp only at hSw); go_simp; (try with_reducible rfl)
            try simp only [Act.put, List.setIfInBounds_toArray, List.set_cons_zero, List.set_cons_succ]
            refine wpAnyK_take1 (i := 2) (v := ?_) (by simp only [List.getElem?_toArray, List.getElem?_cons_succ, List.getElem?_cons_zero]; rfl) (by kernel_rfl) (by kernel_rfl) (by kernel_rfl) (by kernel_rfl) (by kernel_rfl) (by kernel_rfl) (by exact fun _ _ _ h => h) (Or.inl ⟨by rfl, ?_⟩) (hK _) ?_
            rotate_left
            · intro w hSw; (try dsimp only at hSw); go_simp; (try with_reducible rfl)
            try simp only [Act.put, List.setIfInBounds_toArray, List.set_cons_zero, List.set_cons_succ]
            refine wpAnyK_take1 (i := 3) (v := ?_) (by simp only [List.getElem?_toArray, List.getElem?_cons_succ, List.getElem?_cons_zero]; rfl) (by kernel_rfl) (by kernel_rfl) (by kernel_rfl) (by kernel_rfl) (by kernel_rfl) (by kernel_rfl) (by exact fun _ _ _ h => h) (Or.inl ⟨by rfl, ?_⟩) (hK _) ?_
            rotate_left
            · intro w hSw; (try dsimp only at hSw); go_simp; (try with_reducible rfl)
            try simp only [Act.put, List.setIfInBounds_toArray, List.set_cons_zero, List.set_cons_succ]
            refine wpAnyK_take1 (i := 4) (v := ?_) (by simp only [List.getElem?_toArray, List.getElem?_cons_succ, List.getElem?_cons_zero]; rfl) (by kernel_rfl) (by kernel_rfl) (by kernel_rfl) (by kernel_rfl) (by kernel_rfl) (by kernel_rfl) (by exact fun _ _ _ h => h) (Or.inl ⟨by rfl, ?_⟩) (hK _) ?_
            rotate_left
            · intro w hSw; (try dsimp only at hSw); go_simp; (try with_reducible rfl)
            try simp only [Act.put, List.setIfInBounds_toArray, List.set_cons_zero, List.set_cons_succ]
            refine wpAnyK_take1 (i := 5) (v := ?_) (by simp only [List.getElem?_toArray, List.getElem?_cons_succ, List.getElem?_cons_zero]; rfl) (by kernel_rfl) (by kernel_rfl) (by kernel_rfl) (by kernel_rfl) (by kernel_rfl) (by kernel_rfl) (by exact fun _ _ _ h => h) (Or.inl ⟨by rfl, ?_⟩) (hK _) ?_
            rotate_left
            · intro w hSw; (try dsimp only at hSw); go_simp; (try with_reducible rfl)
            try simp only [Act.put, List.setIfInBounds_toArray, List.set_cons_zero, List.set_cons_succ]
            refine wpAnyK_take1 (i := 6) (v := ?_) (by simp only [List.getElem?_toArray, List.getElem?_cons_succ, List.getElem?_cons_zero]; rfl) (by kernel_rfl) (by kernel_rfl) (by kernel_rfl) (by kernel_rfl) (by kernel_rfl) (by kernel_rfl) (by exact fun _ _ _ h => h) (Or.inl ⟨by rfl, ?_⟩) (hK _) ?_
            rotate_left
            · intro w hSw; (try dsimp only at hSw); go_simp; (try with_reducible rfl)
            try simp only [Act.put, List.setIfInBounds_toArray, List.set_cons_zero, List.set_cons_succ]
            refine wpAnyK_take2 (i := 8) (v := ?_) (by simp only [List.getElem?_toArray, List.getElem?_cons_succ, List.getElem?_cons_zero]; rfl) (by kernel_rfl) (by kernel_rfl) (by kernel_rfl) (by kernel_rfl) (by kernel_rfl) (by kernel_rfl) (by exact fun _ _ _ h => h) (Or.inl ⟨by rfl, ?_⟩) (hK _) ?_
            rotate_left
            · intro w hSw; (try dsimp only at hSw); go_simp; (try with_reducible rfl)
            try simp only [Act.put, List.setIfInBounds_toArray, List.set_cons_zero, List.set_cons_succ]
            refine wpAnyK_take2 (i := 10) (v := ?_) (by simp only [List.getElem?_toArray, List.getElem?_cons_succ, List.getElem?_cons_zero]; rfl) (by kernel_rfl) (by kernel_rfl) (by kernel_rfl) (by kernel_rfl) (by kernel_rfl) (by kernel_rfl) (by exact fun _ _ _ h => h) (Or.inl ⟨by rfl, ?_⟩) (hK _) ?_
            rotate_left
            · intro w hSw; (try dsimp only at hSw); go_simp; (try with_reducible rfl)
            try simp only [Act.put, List.setIfInBounds_toArray, List.set_cons_zero, List.set_cons_succ]
            refine wpAnyK_take2 (i := 11) (v := ?_) (by simp only [List.getElem?_toArray, List.getElem?_cons_succ, List.getElem?_cons_zero]; rfl) (by kernel_rfl) (by kernel_rfl) (by kernel_rfl) (by kernel_rfl) (by kernel_rfl) (by kernel_rfl) (by exact fun _ _ _ h => h) (Or.inl ⟨by rfl, ?_⟩) (hK _) ?_
            rotate_left
            · intro w hSw; (try dsimp only at hSw); go_simp; (try with_reducible rfl)
            try simp only [Act.put, List.setIfInBounds_toArray, List.set_cons_zero, List.set_cons_succ]
            refine wpAnyK_take2 (i := 12) (v := ?_) (by simp only [List.getElem?_toArray, List.getElem?_cons_succ, List.getElem?_cons_zero]; rfl) (by kernel_rfl) (by kernel_rfl) (by kernel_rfl) (by kernel_rfl) (by kernel_rfl) (by kernel_rfl) (by exact fun _ _ _ h => h) (Or.inl ⟨by rfl, ?_⟩) (hK _) ?_
            rotate_left
            · intro w hSw; (try dsimp only at hSw); go_simp; (try with_reducible rfl)
            try simp only [Act.put, List.setIfInBounds_toArray, List.set_cons_zero, List.set_cons_succ]
            refine wpAnyK_take2 (i := 13) (v := ?_) (by simp only [List.getElem?_toArray, List.getElem?_cons_succ, List.getElem?_cons_zero]; rfl) (by kernel_rfl) (by kernel_rfl) (by kernel_rfl) (by kernel_rfl) (by kernel_rfl) (by kernel_rfl) (by exact fun _ _ _ h => h) (Or.inl ⟨by rfl, ?_⟩) (hK _) ?_
            rotate_left
            · intro w hSw; (try dsimp only at hSw); go_simp; (try with_reducible rfl)
            try simp only [Act.put, List.setIfInBounds_toArray, List.set_cons_zero, List.set_cons_succ]
            refine wpAnyK_one (i := 7) (by kernel_rfl) (by simp only [List.getElem?_toArray, List.getElem?_cons_succ, List.getElem?_cons_zero]; rfl) (fun kC hkC => ?_)
            go_simp
            refine (drop_any 2 2 4 0 2 t 1 9 false x a v M _ hTd.s.m).mono ?_; rw [HD.out]; unfold handV; dsimp only; rintro e w5 ⟨rfl, hm, hk⟩; have hT5 := hTd.turnS hm hk; have m5 := HBm.out _ hT5.s.kp; have hx5 := (HX.out.x.keep ((Keeps.refl NoS _).drew) (fun f => f)).keep hk (HA.out.na (Nat.le_refl _)); have hy5 := (HX.out.y.keep ((Keeps.refl NoS _).drew) (fun f => f)).keep hk (HA.out.na (by omega)); have hX5 : (w5.cell? ⟨G, t * 5, none⟩ = some (.int .i64 t) ∧ w5.cell? ⟨G, t * 5 + 1, none⟩ = some (.int .i64 1) ∧ w5.cell? ⟨G, t * 5 + 2, none⟩ = some (.int .i64 9) ∧ w5.cell? ⟨G, t * 5 + 3, none⟩ = some (.bool false) ∧ w5.cell? ⟨G, t * 5 + 4, none⟩ = some (.int .i64 x)) := (HandC hx5 ht HF.out); have hY5 : (w5.cell? ⟨(G + 1), t * 5, none⟩ = some (.int .i64 t) ∧ w5.cell? ⟨(G + 1), t * 5 + 1, none⟩ = some (.int .i64 1) ∧ w5.cell? ⟨(G + 1), t * 5 + 2, none⟩ = some (.int .i64 9) ∧ w5.cell? ⟨(G + 1), t * 5 + 3, none⟩ = some (.bool false) ∧ w5.cell? ⟨(G + 1), t * 5 + 4, none⟩ = some (.int .i64 x)) := (HandC hy5 ht HF.out); clear hm hk
            (try go_wp2_with fail)
            refine hkC.out _ _ (⟨hX5, hY5, m5⟩) (⟨hY5, m5⟩) (fun hK => ?_)
            clear hkC kC
            try simp only [Act.put, List.setIfInBounds_toArray, List.set_cons_zero, List.set_cons_succ]
            refine wpAnyK_take1 (i := 15) (v := ?_) (by simp only [List.getElem?_toArray, List.getElem?_cons_succ, List.getElem?_cons_zero]; rfl) (by kernel_rfl) (by kernel_rfl) (by kernel_rfl) (by kernel_rfl) (by kernel_rfl) (by kernel_rfl) (by exact fun _ _ _ h => h) (Or.inl ⟨by rfl, ?_⟩) (hK _) ?_
            rotate_left
            · intro w hSw; (try dsimp only at hSw); go_simp; (try with_reducible rfl)
            try simp only [Act.put, List.setIfInBounds_toArray, List.set_cons_zero, List.set_cons_succ]
            refine wpAnyK_one (i := 9) (by kernel_rfl) (by simp only [List.getElem?_toArray, List.getElem?_cons_succ, List.getElem?_cons_zero]; rfl) (fun kC hkC => ?_)
            go_simp
            refine (ref_any ⟨2, 2, 4, 0, 2⟩ _).mono ?_; rintro e w6 ⟨rfl, hk⟩; have hT6 := hT5.keep hk; have m6 := HBm.out _ hT6.s.kp; have hx6 := hx5.keep hk (fun f => f); have hy6 := hy5.keep hk (fun f => f); have hX6 := (HandC hx6 ht HF.out); have hY6 := (HandC hy6 ht HF.out); unfold mapV; dsimp only
            (try go_wp2_with fail)
            refine hkC.out _ _ (⟨hX6, hY6, m6⟩) (⟨hY6, m6⟩) (fun hK => ?_)
            clear hkC kC
            try simp only [Act.put, List.setIfInBounds_toArray, List.set_cons_zero, List.set_cons_succ]
            refine wpAnyK_one (i := 14) (by kernel_rfl) (by simp only [List.getElem?_toArray, List.getElem?_cons_succ, List.getElem?_cons_zero]; rfl) (fun kC hkC => ?_)
            go_simp
            refine (rdrop_any 2 2 4 0 2 t 1 9 false x c u M _ hT6.r.m HM.out).mono ?_; rw [HD.out]; unfold handV; dsimp only; rintro e w7 ⟨rfl, hm, hk⟩; have hT7 := hT6.turnR hm hk; have m7 := HBm.out _ hT7.s.kp; have hx7 := hx6.keep hk (HA.out.nc (Nat.le_refl _)); have hy7 := hy6.keep hk (HA.out.nc (by omega)); have hX7 := (HandC hx7 ht HF.out); have hY7 := (HandC hy7 ht HF.out); have F0 := hx7.free (t * 5); have F1 := hx7.free (t * 5 + 1); have F2 := hx7.free (t * 5 + 2); have F3 := hx7.free (t * 5 + 3); have F4 := hx7.free (t * 5 + 4); have G0 := hy7.free (t * 5); have G1 := hy7.free (t * 5 + 1); have G2 := hy7.free (t * 5 + 2); have G3 := hy7.free (t * 5 + 3); have G4 := hy7.free (t * 5 + 4); have hl7 := hy7.lt; have hput7 := RunS.put (f := f) ⟨hT7, hx7, hy7⟩ HA.out t ht ⟨t', l', s', r', x'⟩; have HP := Lib.hid hput7; have hyS := HandC (hy7.outH (G' := G) (by omega) t ⟨t', l', s', r', x'⟩) ht HF.out; have mS := HBm.out _ (hT7.s.kp.setH (g := G) hWB t ⟨t', l', s', r', x'⟩); unfold setH at hyS mS; dsimp only at hyS mS; clear hm hk hput7
            (try go_wp2_with fail)
            refine hkC.out _ _ (⟨hX7, hY7, m7⟩) (⟨hY7, m7⟩) (fun hK => ?_)
            clear hkC kC
            try simp only [Act.put, List.setIfInBounds_toArray, List.set_cons_zero, List.set_cons_succ]
            refine wpAnyK_mid (i := 16) (by kernel_rfl) (by simp only [List.getElem?_toArray, List.getElem?_cons_succ, List.getElem?_cons_zero]; rfl) (by kernel_rfl) (fun kC hkC => ?_)
            go_simp
            refine hkC.out _ _ (⟨hyS, mS⟩) (fun hM => ?_)
            clear hkC kC
            try simp only [Act.put, List.setIfInBounds_toArray, List.set_cons_zero, List.set_cons_succ]
            refine wpAnyK_take2 (i := 17) (v := ?_) (by simp only [List.getElem?_toArray, List.getElem?_cons_succ, List.getElem?_cons_zero]; rfl) (by kernel_rfl) (by kernel_rfl) (by kernel_rfl) (by kernel_rfl) (by kernel_rfl) (by kernel_rfl) (by exact fun _ _ _ h => h) (Or.inl ⟨by rfl, ?_⟩) (ReqK.mid (by kernel_rfl) hM) ?_
            rotate_left
            · intro w hSw; (try dsimp only at hSw); go_simp; (try with_reducible rfl)
            try simp only [Act.put, List.setIfInBounds_toArray, List.set_cons_zero, List.set_cons_succ]
            refine wpAnyK_last (i := 18) (by kernel_rfl) (by simp only [List.getElem?_toArray, List.getElem?_cons_succ, List.getElem?_cons_zero]; rfl) (by kernel_rfl) (by kernel_rfl) (fun kC hkC => ?_)
            go_simp
            refine hkC.out _ _ ?_
            clear hkC kC
            try simp only [Act.put, List.setIfInBounds_toArray, List.set_cons_zero, List.set_cons_succ]
            refine wpAnyK_done (by kernel_rfl) ?_ _
            have hP := HP.out
            unfold setH at hP
            dsimp only at hP
            generalize (((((((((w7.setCell ⟨G, t * 5, none⟩ (.int .i64 t')).setCell ⟨G, t * 5 + 1, none⟩ (.int .i64 l')).setCell ⟨G, t * 5 + 2, none⟩ (.int .i64 s')).setCell ⟨G, t * 5 + 3, none⟩ (.bool r')).setCell ⟨G, t * 5 + 4, none⟩ (.int .i64 x')).setCell ⟨G + 1, t * 5, none⟩ (.int .i64 t')).setCell ⟨G + 1, t * 5 + 1, none⟩ (.int .i64 l')).setCell ⟨G + 1, t * 5 + 2, none⟩ (.int .i64 s')).setCell ⟨G + 1, t * 5 + 3, none⟩ (.bool r')).setCell ⟨G + 1, t * 5 + 4, none⟩ (.int .i64 x') = wz at *
            generalize hput f t ⟨t', l', s', r', x'⟩ = f' at *
            have HX' := Lib.hid hP
            clear hP HP HD HM HF H1 H9 hTd hT5 hT6 hT7 m5 m6 m7 hx5 hy5 hx6 hy6 hx7 hy7 hX5 hY5 hX6 hY6 hX7 hY7 F0 F1 F2 F3 F4 G0 G1 G2 G3 G4 hl7 hyS mS hM hK x0 x1 x2 x3 x4 y0 y1 y2 y3 y4 m0 m1 m2 m3 m4 f0 f1 f2 f3 f4 g0 g1 g2 g3 g4 hxl hyl hz hq cn
            clear HX HI
            go_wp2_with fail
            go_loopw [11, 12] (fun hv kv wq => ∃ k : Nat, k ≤ 4 ∧ hv = .int .i64 (heldN f' k : Nat) ∧ kv = .int .i64 k ∧ RunS W wq a c v u M' G f') (fun _ kv _ => 4 - (intOf kv).toNat)
            case atStart => exact ⟨0, by omega, rfl, rfl, HX'.out⟩
            case round =>
              obtain ⟨k, hk, rfl, rfl, hr⟩ := hrel
              have HK := Lib.hid hr
              clear hr HX'
              by_cases hk4 : k < 4
              · have hk1 : (0 : Int) ≤ (k : Int) := by omega
                have hk2 : (k : Int) < 4 := by omega
                have hst : heldN f' (k + 1) = heldN f' k + if (f' k).s = 9 then 1 else 0 := rfl
                have hhl := heldN_le f' k
                obtain ⟨fk, hfk⟩ : ∃ fk, f' k = fk := ⟨_, rfl⟩
                obtain ⟨ta, tb, tc, td, te⟩ := fk
                obtain ⟨x0, x1, x2, x3, x4⟩ := HandC HK.out.x hk4 hfk
                obtain ⟨y0, y1, y2, y3, y4⟩ := HandC HK.out.y hk4 hfk
                rw [hfk] at hst
                dsimp only at hst
                have HST := Lib.hid hst
                clear hst hfk
                generalize heldN f' k = cnt at *
                by_cases h9 : tc = 9
                · subst h9
                  go_wp2_with fail
                  go_quiet (fail)
                  go_wp2_with fail
                  go_roundw
                  case rel => exact ⟨k + 1, by omega, (by rw [HST.out]; simp only [if_true]; go_num), by go_num, HK.out.keep ((Keeps.refl NoS _).drewN _)⟩
                  case measure => simp [intOf]; omega
                · go_wp2_with fail
                  go_quiet (fail)
                  go_wp2_with fail
                  go_roundw
                  case rel => exact ⟨k + 1, by omega, (by rw [HST.out, if_neg h9]; go_num), by go_num, HK.out.keep ((Keeps.refl NoS _).drewN _)⟩
                  case measure => simp [intOf]; omega
              · obtain rfl : k = 4 := by omega
                have hc1 := HI'.out.one_held
                generalize heldN f' 4 = cnt at *
                have hc2 : (cnt : Int) ≤ 1 := by omega
                clear hc1
                go_wp2_with (go_at_call 26; refine (like_keep W _ a c v u M' HK.out.t).mono ?_; rintro e w8 ⟨rfl, hT8, hk8⟩)
                go_roundw
                case rel => exact ⟨n + 1, M', f', by omega, by go_num, HK.out.keep hk8, HI'.out⟩
                case measure => simp [intOf]; omega
          · go_wp2_with fail
            obtain ⟨M', h', hd⟩ : ∃ M' h', tkTake ⟨2, 2, 4, 0, 2⟩ M ⟨t, 1, 9, false, x⟩ = (M', h') := ⟨_, _, rfl⟩
            obtain ⟨t', l', s', r', x'⟩ := h'
            have hI' := H1.out
            rw [hd] at hI'
            have HD := Lib.hid hd; have HI' := Lib.hid hI'
            clear hd hI'
            have hTd := HX.out.t.keep ((Keeps.refl NoS _).drew)
            refine wp_region_kept_drew 16 (fun w' => (w'.cell? ⟨G, t * 5, none⟩ = some (.int .i64 t) ∧ w'.cell? ⟨G, t * 5 + 1, none⟩ = some (.int .i64 1) ∧ w'.cell? ⟨G, t * 5 + 2, none⟩ = some (.int .i64 9) ∧ w'.cell? ⟨G, t * 5 + 3, none⟩ = some (.bool false) ∧ w'.cell? ⟨G, t * 5 + 4, none⟩ = some (.int .i64 x)) ∧ (w'.cell? ⟨(G + 1), t * 5, none⟩ = some (.int .i64 t) ∧ w'.cell? ⟨(G + 1), t * 5 + 1, none⟩ = some (.int .i64 1) ∧ w'.cell? ⟨(G + 1), t * 5 + 2, none⟩ = some (.int .i64 9) ∧ w'.cell? ⟨(G + 1), t * 5 + 3, none⟩ = some (.bool false) ∧ w'.cell? ⟨(G + 1), t * 5 + 4, none⟩ = some (.int .i64 x)) ∧ (w'.cell? ⟨B, 0, none⟩ = some (.int .i64 2) ∧ w'.cell? ⟨B, 1, none⟩ = some (.int .i64 2) ∧ w'.cell? ⟨B, 2, none⟩ = some (.int .i64 4) ∧ w'.cell? ⟨B, 3, none⟩ = some (.int .i64 0) ∧ w'.cell? ⟨B, 4, none⟩ = some (.int .i64 2))) 18 (fun w' => (w'.cell? ⟨(G + 1), t * 5, none⟩ = some (.int .i64 t) ∧ w'.cell? ⟨(G + 1), t * 5 + 1, none⟩ = some (.int .i64 1) ∧ w'.cell? ⟨(G + 1), t * 5 + 2, none⟩ = some (.int .i64 9) ∧ w'.cell? ⟨(G + 1), t * 5 + 3, none⟩ = some (.bool false) ∧ w'.cell? ⟨(G + 1), t * 5 + 4, none⟩ = some (.int .i64 x)) ∧ (w'.cell? ⟨B, 0, none⟩ = some (.int .i64 2) ∧ w'.cell? ⟨B, 1, none⟩ = some (.int .i64 2) ∧ w'.cell? ⟨B, 2, none⟩ = some (.int .i64 4) ∧ w'.cell? ⟨B, 3, none⟩ = some (.int .i64 0) ∧ w'.cell? ⟨B, 4, none⟩ = some (.int .i64 2))) (by kernel_rfl) (⟨⟨x0, x1, x2, x3, x4⟩, ⟨y0, y1, y2, y3, y4⟩, ⟨m0, m1, m2, m3, m4⟩⟩) (⟨⟨y0, y1, y2, y3, y4⟩, ⟨m0, m1, m2, m3, m4⟩⟩) (fun hK => ?_)
            refine wpAnyK_take1 (i := 0) (v := ?_) (by simp only [List.getElem?_toArray, List.getElem?_cons_succ, List.getElem?_cons_zero]; rfl) (by kernel_rfl) (by kernel_rfl) (by kernel_rfl) (by kernel_rfl) (by kernel_rfl) (by kernel_rfl) (by exact fun _ _ _ h => h) (Or.inl ⟨by rfl, ?_⟩) (hK _) ?_
            rotate_left
            · intro w hSw; (try dsimp only at hSw); go_simp; (try with_reducible rfl)
            try simp only [Act.put, List.setIfInBounds_toArray, List.set_cons_zero, List.set_cons_succ]
            refine wpAnyK_take2 (i := 1) (v := ?_) (by simp only [List.getElem?_toArray, List.getElem?_cons_succ, List.getElem?_cons_zero]; rfl) (by kernel_rfl) (by kernel_rfl) (by kernel_rfl) (by kernel_rfl) (by kernel_rfl) (by kernel_rfl) (by exact fun _ _ _ h => h) (Or.inl ⟨by rfl, ?_⟩) (hK _) ?_
            rotate_left
            · intro w hSw; (try dsimp only at hSw); go_simp; (try with_reducible rfl)
            try simp only [Act.put, List.setIfInBounds_toArray, List.set_cons_zero, List.set_cons_succ]
            refine wpAnyK_take1 (i := 2) (v := ?_) (by simp only [List.getElem?_toArray, List.getElem?_cons_succ, List.getElem?_cons_zero]; rfl) (by kernel_rfl) (by kernel_rfl) (by kernel_rfl) (by kernel_rfl) (by kernel_rfl) (by kernel_rfl) (by exact fun _ _ _ h => h) (Or.inl ⟨by rfl, ?_⟩) (hK _) ?_
            rotate_left
            · intro w hSw; (try dsimp only at hSw); go_simp; (try with_reducible rfl)
            try simp only [Act.put, List.setIfInBounds_toArray, List.set_cons_zero, List.set_cons_succ]
            refine wpAnyK_take1 (i := 3) (v := ?_) (by simp only [List.getElem?_toArray, List.getElem?_cons_succ, List.getElem?_cons_zero]; rfl) (by kernel_rfl) (by kernel_rfl) (by kernel_rfl) (by kernel_rfl) (by kernel_rfl) (by kernel_rfl) (by exact fun _ _ _ h => h) (Or.inl ⟨by rfl, ?_⟩) (hK _) ?_
            rotate_left
            · intro w hSw; (try dsimp only at hSw); go_simp; (try with_reducible rfl)
            try simp only [Act.put, List.setIfInBounds_toArray, List.set_cons_zero, List.set_cons_succ]
            refine wpAnyK_take1 (i := 4) (v := ?_) (by simp only [List.getElem?_toArray, List.getElem?_cons_succ, List.getElem?_cons_zero]; rfl) (by kernel_rfl) (by kernel_rfl) (by kernel_rfl) (by kernel_rfl) (by kernel_rfl) (by kernel_rfl) (by exact fun _ _ _ h => h) (Or.inl ⟨by rfl, ?_⟩) (hK _) ?_
            rotate_left
            · intro w hSw; (try dsimp only at hSw); go_simp; (try with_reducible rfl)
            try simp only [Act.put, List.setIfInBounds_toArray, List.set_cons_zero, List.set_cons_succ]
            refine wpAnyK_take1 (i := 5) (v := ?_) (by simp only [List.getElem?_toArray, List.getElem?_cons_succ, List.getElem?_cons_zero]; rfl) (by kernel_rfl) (by kernel_rfl) (by kernel_rfl) (by kernel_rfl) (by kernel_rfl) (by kernel_rfl) (by exact fun _ _ _ h => h) (Or.inl ⟨by rfl, ?_⟩) (hK _) ?_
            rotate_left
            · intro w hSw; (try dsimp only at hSw); go_simp; (try with_reducible rfl)
            try simp only [Act.put, List.setIfInBounds_toArray, List.set_cons_zero, List.set_cons_succ]
            refine wpAnyK_take1 (i := 6) (v := ?_) (by simp only [List.getElem?_toArray, List.getElem?_cons_succ, List.getElem?_cons_zero]; rfl) (by kernel_rfl) (by kernel_rfl) (by kernel_rfl) (by kernel_rfl) (by kernel_rfl) (by kernel_rfl) (by exact fun _ _ _ h => h) (Or.inl ⟨by rfl, ?_⟩) (hK _) ?_
            rotate_left
            · intro w hSw; (try dsimp only at hSw); go_simp; (try with_reducible rfl)
            try simp only [Act.put, List.setIfInBounds_toArray, List.set_cons_zero, List.set_cons_succ]
            refine wpAnyK_take2 (i := 8) (v := ?_) (by simp only [List.getElem?_toArray, List.getElem?_cons_succ, List.getElem?_cons_zero]; rfl) (by kernel_rfl) (by kernel_rfl) (by kernel_rfl) (by kernel_rfl) (by kernel_rfl) (by kernel_rfl) (by exact fun _ _ _ h => h) (Or.inl ⟨by rfl, ?_⟩) (hK _) ?_
            rotate_left
            · intro w hSw; (try dsimp only at hSw); go_simp; (try with_reducible rfl)
            try simp only [Act.put, List.setIfInBounds_toArray, List.set_cons_zero, List.set_cons_succ]
            refine wpAnyK_take2 (i := 10) (v := ?_) (by simp only [List.getElem?_toArray, List.getElem?_cons_succ, List.getElem?_cons_zero]; rfl) (by kernel_rfl) (by kernel_rfl) (by kernel_rfl) (by kernel_rfl) (by kernel_rfl) (by kernel_rfl) (by exact fun _ _ _ h => h) (Or.inl ⟨by rfl, ?_⟩) (hK _) ?_
            rotate_left
            · intro w hSw; (try dsimp only at hSw); go_simp; (try with_reducible rfl)
            try simp only [Act.put, List.setIfInBounds_toArray, List.set_cons_zero, List.set_cons_succ]
            refine wpAnyK_take2 (i := 11) (v := ?_) (by simp only [List.getElem?_toArray, List.getElem?_cons_succ, List.getElem?_cons_zero]; rfl) (by kernel_rfl) (by kernel_rfl) (by kernel_rfl) (by kernel_rfl) (by kernel_rfl) (by kernel_rfl) (by exact fun _ _ _ h => h) (Or.inl ⟨by rfl, ?_⟩) (hK _) ?_
            rotate_left
            · intro w hSw; (try dsimp only at hSw); go_simp; (try with_reducible rfl)
            try simp only [Act.put, List.setIfInBounds_toArray, List.set_cons_zero, List.set_cons_succ]
            refine wpAnyK_take2 (i := 12) (v := ?_) (by simp only [List.getElem?_toArray, List.getElem?_cons_succ, List.getElem?_cons_zero]; rfl) (by kernel_rfl) (by kernel_rfl) (by kernel_rfl) (by kernel_rfl) (by kernel_rfl) (by kernel_rfl) (by exact fun _ _ _ h => h) (Or.inl ⟨by rfl, ?_⟩) (hK _) ?_
            rotate_left
            · intro w hSw; (try dsimp only at hSw); go_simp; (try with_reducible rfl)
            try simp only [Act.put, List.setIfInBounds_toArray, List.set_cons_zero, List.set_cons_succ]
            refine wpAnyK_take2 (i := 13) (v := ?_) (by simp only [List.getElem?_toArray, List.getElem?_cons_succ, List.getElem?_cons_zero]; rfl) (by kernel_rfl) (by kernel_rfl) (by kernel_rfl) (by kernel_rfl) (by kernel_rfl) (by kernel_rfl) (by exact fun _ _ _ h => h) (Or.inl ⟨by rfl, ?_⟩) (hK _) ?_
            rotate_left
            · intro w hSw; (try dsimp only at hSw); go_simp; (try with_reducible rfl)
            try simp only [Act.put, List.setIfInBounds_toArray, List.set_cons_zero, List.set_cons_succ]
            refine wpAnyK_one (i := 7) (by kernel_rfl) (by simp only [List.getElem?_toArray, List.getElem?_cons_succ, List.getElem?_cons_zero]; rfl) (fun kC hkC => ?_)
            go_simp
            refine (take_any 2 2 4 0 2 t 1 9 false x a v M _ hTd.s.m).mono ?_; rw [HD.out]; unfold handV; dsimp only; rintro e w5 ⟨rfl, hm, hk⟩; have hT5 := hTd.turnS hm hk; have m5 := HBm.out _ hT5.s.kp; have hx5 := (HX.out.x.keep ((Keeps.refl NoS _).drew) (fun f => f)).keep hk (HA.out.na (Nat.le_refl _)); have hy5 := (HX.out.y.keep ((Keeps.refl NoS _).drew) (fun f => f)).keep hk (HA.out.na (by omega)); have hX5 : (w5.cell? ⟨G, t * 5, none⟩ = some (.int .i64 t) ∧ w5.cell? ⟨G, t * 5 + 1, none⟩ = some (.int .i64 1) ∧ w5.cell? ⟨G, t * 5 + 2, none⟩ = some (.int .i64 9) ∧ w5.cell? ⟨G, t * 5 + 3, none⟩ = some (.bool false) ∧ w5.cell? ⟨G, t * 5 + 4, none⟩ = some (.int .i64 x)) := (HandC hx5 ht HF.out); have hY5 : (w5.cell? ⟨(G + 1), t * 5, none⟩ = some (.int .i64 t) ∧ w5.cell? ⟨(G + 1), t * 5 + 1, none⟩ = some (.int .i64 1) ∧ w5.cell? ⟨(G + 1), t * 5 + 2, none⟩ = some (.int .i64 9) ∧ w5.cell? ⟨(G + 1), t * 5 + 3, none⟩ = some (.bool false) ∧ w5.cell? ⟨(G + 1), t * 5 + 4, none⟩ = some (.int .i64 x)) := (HandC hy5 ht HF.out); clear hm hk
            (try go_wp2_with fail)
            refine hkC.out _ _ (⟨hX5, hY5, m5⟩) (⟨hY5, m5⟩) (fun hK => ?_)
            clear hkC kC
            try simp only [Act.put, List.setIfInBounds_toArray, List.set_cons_zero, List.set_cons_succ]
            refine wpAnyK_take1 (i := 15) (v := ?_) (by simp only [List.getElem?_toArray, List.getElem?_cons_succ, List.getElem?_cons_zero]; rfl) (by kernel_rfl) (by kernel_rfl) (by kernel_rfl) (by kernel_rfl) (by kernel_rfl) (by kernel_rfl) (by exact fun _ _ _ h => h) (Or.inl ⟨by rfl, ?_⟩) (hK _) ?_
            rotate_left
            · intro w hSw; (try dsimp only at hSw); go_simp; (try with_reducible rfl)
            try simp only [Act.put, List.setIfInBounds_toArray, List.set_cons_zero, List.set_cons_succ]
            refine wpAnyK_one (i := 9) (by kernel_rfl) (by simp only [List.getElem?_toArray, List.getElem?_cons_succ, List.getElem?_cons_zero]; rfl) (fun kC hkC => ?_)
            go_simp
            refine (ref_any ⟨2, 2, 4, 0, 2⟩ _).mono ?_; rintro e w6 ⟨rfl, hk⟩; have hT6 := hT5.keep hk; have m6 := HBm.out _ hT6.s.kp; have hx6 := hx5.keep hk (fun f => f); have hy6 := hy5.keep hk (fun f => f); have hX6 := (HandC hx6 ht HF.out); have hY6 := (HandC hy6 ht HF.out); unfold mapV; dsimp only
            (try go_wp2_with fail)
            refine hkC.out _ _ (⟨hX6, hY6, m6⟩) (⟨hY6, m6⟩) (fun hK => ?_)
            clear hkC kC
            try simp only [Act.put, List.setIfInBounds_toArray, List.set_cons_zero, List.set_cons_succ]
            refine wpAnyK_one (i := 14) (by kernel_rfl) (by simp only [List.getElem?_toArray, List.getElem?_cons_succ, List.getElem?_cons_zero]; rfl) (fun kC hkC => ?_)
            go_simp
            refine (rtake_any 2 2 4 0 2 t 1 9 false x c u M _ hT6.r.m HM.out).mono ?_; rw [HD.out]; unfold handV; dsimp only; rintro e w7 ⟨rfl, hm, hk⟩; have hT7 := hT6.turnR hm hk; have m7 := HBm.out _ hT7.s.kp; have hx7 := hx6.keep hk (HA.out.nc (Nat.le_refl _)); have hy7 := hy6.keep hk (HA.out.nc (by omega)); have hX7 := (HandC hx7 ht HF.out); have hY7 := (HandC hy7 ht HF.out); have F0 := hx7.free (t * 5); have F1 := hx7.free (t * 5 + 1); have F2 := hx7.free (t * 5 + 2); have F3 := hx7.free (t * 5 + 3); have F4 := hx7.free (t * 5 + 4); have G0 := hy7.free (t * 5); have G1 := hy7.free (t * 5 + 1); have G2 := hy7.free (t * 5 + 2); have G3 := hy7.free (t * 5 + 3); have G4 := hy7.free (t * 5 + 4); have hl7 := hy7.lt; have hput7 := RunS.put (f := f) ⟨hT7, hx7, hy7⟩ HA.out t ht ⟨t', l', s', r', x'⟩; have HP := Lib.hid hput7; have hyS := HandC (hy7.outH (G' := G) (by omega) t ⟨t', l', s', r', x'⟩) ht HF.out; have mS := HBm.out _ (hT7.s.kp.setH (g := G) hWB t ⟨t', l', s', r', x'⟩); unfold setH at hyS mS; dsimp only at hyS mS; clear hm hk hput7
            (try go_wp2_with fail)
            refine hkC.out _ _ (⟨hX7, hY7, m7⟩) (⟨hY7, m7⟩) (fun hK => ?_)
            clear hkC kC
            try simp only [Act.put, List.setIfInBounds_toArray, List.set_cons_zero, List.set_cons_succ]
            refine wpAnyK_mid (i := 16) (by kernel_rfl) (by simp only [List.getElem?_toArray, List.getElem?_cons_succ, List.getElem?_cons_zero]; rfl) (by kernel_rfl) (fun kC hkC => ?_)
            go_simp
            refine hkC.out _ _ (⟨hyS, mS⟩) (fun hM => ?_)
            clear hkC kC
            try simp only [Act.put, List.setIfInBounds_toArray, List.set_cons_zero, List.set_cons_succ]
            refine wpAnyK_take2 (i := 17) (v := ?_) (by simp only [List.getElem?_toArray, List.getElem?_cons_succ, List.getElem?_cons_zero]; rfl) (by kernel_rfl) (by kernel_rfl) (by kernel_rfl) (by kernel_rfl) (by kernel_rfl) (by kernel_rfl) (by exact fun _ _ _ h => h) (Or.inl ⟨by rfl, ?_⟩) (ReqK.mid (by kernel_rfl) hM) ?_
            rotate_left
            · intro w hSw; (try dsimp only at hSw); go_simp; (try with_reducible rfl)
            try simp only [Act.put, List.setIfInBounds_toArray, List.set_cons_zero, List.set_cons_succ]
            refine wpAnyK_last (i := 18) (by kernel_rfl) (by simp only [List.getElem?_toArray, List.getElem?_cons_succ, List.getElem?_cons_zero]; rfl) (by kernel_rfl) (by kernel_rfl) (fun kC hkC => ?_)
            go_simp
            refine hkC.out _ _ ?_
            clear hkC kC
            try simp only [Act.put, List.setIfInBounds_toArray, List.set_cons_zero, List.set_cons_succ]
            refine wpAnyK_done (by kernel_rfl) ?_ _
            have hP := HP.out
            unfold setH at hP
            dsimp only at hP
            generalize (((((((((w7.setCell ⟨G, t * 5, none⟩ (.int .i64 t')).setCell ⟨G, t * 5 + 1, none⟩ (.int .i64 l')).setCell ⟨G, t * 5 + 2, none⟩ (.int .i64 s')).setCell ⟨G, t * 5 + 3, none⟩ (.bool r')).setCell ⟨G, t * 5 + 4, none⟩ (.int .i64 x')).setCell ⟨G + 1, t * 5, none⟩ (.int .i64 t')).setCell ⟨G + 1, t * 5 + 1, none⟩ (.int .i64 l')).setCell ⟨G + 1, t * 5 + 2, none⟩ (.int .i64 s')).setCell ⟨G + 1, t * 5 + 3, none⟩ (.bool r')).setCell ⟨G + 1, t * 5 + 4, none⟩ (.int .i64 x') = wz at *
            generalize hput f t ⟨t', l', s', r', x'⟩ = f' at *
            have HX' := Lib.hid hP
            clear hP HP HD HM HF H1 H9 hTd hT5 hT6 hT7 m5 m6 m7 hx5 hy5 hx6 hy6 hx7 hy7 hX5 hY5 hX6 hY6 hX7 hY7 F0 F1 F2 F3 F4 G0 G1 G2 G3 G4 hl7 hyS mS hM hK x0 x1 x2 x3 x4 y0 y1 y2 y3 y4 m0 m1 m2 m3 m4 f0 f1 f2 f3 f4 g0 g1 g2 g3 g4 hxl hyl hz hq cn
            clear HX HI
            go_wp2_with fail
            go_loopw [11, 12] (fun hv kv wq => ∃ k : Nat, k ≤ 4 ∧ hv = .int .i64 (heldN f' k : Nat) ∧ kv = .int .i64 k ∧ RunS W wq a c v u M' G f') (fun _ kv _ => 4 - (intOf kv).toNat)
            case atStart => exact ⟨0, by omega, rfl, rfl, HX'.out⟩
            case round =>
              obtain ⟨k, hk, rfl, rfl, hr⟩ := hrel
              have HK := Lib.hid hr
              clear hr HX'
              by_cases hk4 : k < 4
              · have hk1 : (0 : Int) ≤ (k : Int) := by omega
                have hk2 : (k : Int) < 4 := by omega
                have hst : heldN f' (k + 1) = heldN f' k + if (f' k).s = 9 then 1 else 0 := rfl
                have hhl := heldN_le f' k
                obtain ⟨fk, hfk⟩ : ∃ fk, f' k = fk := ⟨_, rfl⟩
                obtain ⟨ta, tb, tc, td, te⟩ := fk
                obtain ⟨x0, x1, x2, x3, x4⟩ := HandC HK.out.x hk4 hfk
                obtain ⟨y0, y1, y2, y3, y4⟩ := HandC HK.out.y hk4 hfk
                rw [hfk] at hst
                dsimp only at hst
                have HST := Lib.hid hst
                clear hst hfk
                generalize heldN f' k = cnt at *
                by_cases h9 : tc = 9
                · subst h9
                  go_wp2_with fail
                  go_quiet (fail)
                  go_wp2_with fail
                  go_roundw
                  case rel => exact ⟨k + 1, by omega, (by rw [HST.out]; simp only [if_true]; go_num), by go_num, HK.out.keep ((Keeps.refl NoS _).drewN _)⟩
                  case measure => simp [intOf]; omega
                · go_wp2_with fail
                  go_quiet (fail)
                  go_wp2_with fail
                  go_roundw
                  case rel => exact ⟨k + 1, by omega, (by rw [HST.out, if_neg h9]; go_num), by go_num, HK.out.keep ((Keeps.refl NoS _).drewN _)⟩
                  case measure => simp [intOf]; omega
              · obtain rfl : k = 4 := by omega
                have hc1 := HI'.out.one_held
                generalize heldN f' 4 = cnt at *
                have hc2 : (cnt : Int) ≤ 1 := by omega
                clear hc1
                go_wp2_with (go_at_call 26; refine (like_keep W _ a c v u M' HK.out.t).mono ?_; rintro e w8 ⟨rfl, hT8, hk8⟩)
                go_roundw
                case rel => exact ⟨n + 1, M', f', by omega, by go_num, HK.out.keep hk8, HI'.out⟩
                case measure => simp [intOf]; omega
          · go_wp2_with fail
            obtain ⟨M', h', hd⟩ : ∃ M' h', tkTake ⟨2, 2, 4, 0, 2⟩ M ⟨t, 1, s, false, x⟩ = (M', h') := ⟨_, _, rfl⟩
            obtain ⟨t', l', s', r', x'⟩ := h'
            have hI' := H1.out
            rw [hd] at hI'
            have HD := Lib.hid hd; have HI' := Lib.hid hI'
            clear hd hI'
            have hTd := HX.out.t.keep ((Keeps.refl NoS _).drew)
            refine wp_region_kept_drew 16 (fun w' => (w'.cell? ⟨G, t * 5, none⟩ = some (.int .i64 t) ∧ w'.cell? ⟨G, t * 5 + 1, none⟩ = some (.int .i64 1) ∧ w'.cell? ⟨G, t * 5 + 2, none⟩ = some (.int .i64 s) ∧ w'.cell? ⟨G, t * 5 + 3, none⟩ = some (.bool false) ∧ w'.cell? ⟨G, t * 5 + 4, none⟩ = some (.int .i64 x)) ∧ (w'.cell? ⟨(G + 1), t * 5, none⟩ = some (.int .i64 t) ∧ w'.cell? ⟨(G + 1), t * 5 + 1, none⟩ = some (.int .i64 1) ∧ w'.cell? ⟨(G + 1), t * 5 + 2, none⟩ = some (.int .i64 s) ∧ w'.cell? ⟨(G + 1), t * 5 + 3, none⟩ = some (.bool false) ∧ w'.cell? ⟨(G + 1), t * 5 + 4, none⟩ = some (.int .i64 x)) ∧ (w'.cell? ⟨B, 0, none⟩ = some (.int .i64 2) ∧ w'.cell? ⟨B, 1, none⟩ = some (.int .i64 2) ∧ w'.cell? ⟨B, 2, none⟩ = some (.int .i64 4) ∧ w'.cell? ⟨B, 3, none⟩ = some (.int .i64 0) ∧ w'.cell? ⟨B, 4, none⟩ = some (.int .i64 2))) 18 (fun w' => (w'.cell? ⟨(G + 1), t * 5, none⟩ = some (.int .i64 t) ∧ w'.cell? ⟨(G + 1), t * 5 + 1, none⟩ = some (.int .i64 1) ∧ w'.cell? ⟨(G + 1), t * 5 + 2, none⟩ = some (.int .i64 s) ∧ w'.cell? ⟨(G + 1), t * 5 + 3, none⟩ = some (.bool false) ∧ w'.cell? ⟨(G + 1), t * 5 + 4, none⟩ = some (.int .i64 x)) ∧ (w'.cell? ⟨B, 0, none⟩ = some (.int .i64 2) ∧ w'.cell? ⟨B, 1, none⟩ = some (.int .i64 2) ∧ w'.cell? ⟨B, 2, none⟩ = some (.int .i64 4) ∧ w'.cell? ⟨B, 3, none⟩ = some (.int .i64 0) ∧ w'.cell? ⟨B, 4, none⟩ = some (.int .i64 2))) (by kernel_rfl) (⟨⟨x0, x1, x2, x3, x4⟩, ⟨y0, y1, y2, y3, y4⟩, ⟨m0, m1, m2, m3, m4⟩⟩) (⟨⟨y0, y1, y2, y3, y4⟩, ⟨m0, m1, m2, m3, m4⟩⟩) (fun hK => ?_)
            refine wpAnyK_take1 (i := 0) (v := ?_) (by simp only [List.getElem?_toArray, List.getElem?_cons_succ, List.getElem?_cons_zero]; rfl) (by kernel_rfl) (by kernel_rfl) (by kernel_rfl) (by kernel_rfl) (by kernel_rfl) (by kernel_rfl) (by exact fun _ _ _ h => h) (Or.inl ⟨by rfl, ?_⟩) (hK _) ?_
            rotate_left
            · intro w hSw; (try dsimp only at hSw); go_simp; (try with_reducible rfl)
            try simp only [Act.put, List.setIfInBounds_toArray, List.set_cons_zero, List.set_cons_succ]
            refine wpAnyK_take2 (i := 1) (v := ?_) (by simp only [List.getElem?_toArray, List.getElem?_cons_succ, List.getElem?_cons_zero]; rfl) (by kernel_rfl) (by kernel_rfl) (by kernel_rfl) (by kernel_rfl) (by kernel_rfl) (by kernel_rfl) (by exact fun _ _ _ h => h) (Or.inl ⟨by rfl, ?_⟩) (hK _) ?_
            rotate_left
            · intro w hSw; (try dsimp only at hSw); go_simp; (try with_reducible rfl)
            try simp only [Act.put, List.setIfInBounds_toArray, List.set_cons_zero, List.set_cons_succ]
            refine wpAnyK_take1 (i := 2) (v := ?_) (by simp only [List.getElem?_toArray, List.getElem?_cons_succ, List.getElem?_cons_zero]; rfl) (by kernel_rfl) (by kernel_rfl) (by kernel_rfl) (by kernel_rfl) (by kernel_rfl) (by kernel_rfl) (by exact fun _ _ _ h => h) (Or.inl ⟨by rfl, ?_⟩) (hK _) ?_
            rotate_left
            · intro w hSw; (try dsimp only at hSw); go_simp; (try with_reducible rfl)
            try simp only [Act.put, List.setIfInBounds_toArray, List.set_cons_zero, List.set_cons_succ]
            refine wpAnyK_take1 (i := 3) (v := ?_) (by simp only [List.getElem?_toArray, List.getElem?_cons_succ, List.getElem?_cons_zero]; rfl) (by kernel_rfl) (by kernel_rfl) (by kernel_rfl) (by kernel_rfl) (by kernel_rfl) (by kernel_rfl) (by exact fun _ _ _ h => h) (Or.inl ⟨by rfl, ?_⟩) (hK _) ?_
            rotate_left
            · intro w hSw; (try dsimp only at hSw); go_simp; (try with_reducible rfl)
            try simp only [Act.put, List.setIfInBounds_toArray, List.set_cons_zero, List.set_cons_succ]
            refine wpAnyK_take1 (i := 4) (v := ?_) (by simp only [List.getElem?_toArray, List.getElem?_cons_succ, List.getElem?_cons_zero]; rfl) (by kernel_rfl) (by kernel_rfl) (by kernel_rfl) (by kernel_rfl) (by kernel_rfl) (by kernel_rfl) (by exact fun _ _ _ h => h) (Or.inl ⟨by rfl, ?_⟩) (hK _) ?_
            rotate_left
            · intro w hSw; (try dsimp only at hSw); go_simp; (try with_reducible rfl)
            try simp only [Act.put, List.setIfInBounds_toArray, List.set_cons_zero, List.set_cons_succ]
            refine wpAnyK_take1 (i := 5) (v := ?_) (by simp only [List.getElem?_toArray, List.getElem?_cons_succ, List.getElem?_cons_zero]; rfl) (by kernel_rfl) (by kernel_rfl) (by kernel_rfl) (by kernel_rfl) (by kernel_rfl) (by kernel_rfl) (by exact fun _ _ _ h => h) (Or.inl ⟨by rfl, ?_⟩) (hK _) ?_
            rotate_left
            · intro w hSw; (try dsimp only at hSw); go_simp; (try with_reducible rfl)
            try simp only [Act.put, List.setIfInBounds_toArray, List.set_cons_zero, List.set_cons_succ]
            refine wpAnyK_take1 (i := 6) (v := ?_) (by simp only [List.getElem?_toArray, List.getElem?_cons_succ, List.getElem?_cons_zero]; rfl) (by kernel_rfl) (by kernel_rfl) (by kernel_rfl) (by kernel_rfl) (by kernel_rfl) (by kernel_rfl) (by exact fun _ _ _ h => h) (Or.inl ⟨by rfl, ?_⟩) (hK _) ?_
            rotate_left
            · intro w hSw; (try dsimp only at hSw); go_simp; (try with_reducible rfl)
            try simp only [Act.put, List.setIfInBounds_toArray, List.set_cons_zero, List.set_cons_succ]
            refine wpAnyK_take2 (i := 8) (v := ?_) (by simp only [List.getElem?_toArray, List.getElem?_cons_succ, List.getElem?_cons_zero]; rfl) (by kernel_rfl) (by kernel_rfl) (by kernel_rfl) (by kernel_rfl) (by kernel_rfl) (by kernel_rfl) (by exact fun _ _ _ h => h) (Or.inl ⟨by rfl, ?_⟩) (hK _) ?_
            rotate_left
            · intro w hSw; (try dsimp only at hSw); go_simp; (try with_reducible rfl)
            try simp only [Act.put, List.setIfInBounds_toArray, List.set_cons_zero, List.set_cons_succ]
            refine wpAnyK_take2 (i := 10) (v := ?_) (by simp only [List.getElem?_toArray, List.getElem?_cons_succ, List.getElem?_cons_zero]; rfl) (by kernel_rfl) (by kernel_rfl) (by kernel_rfl) (by kernel_rfl) (by kernel_rfl) (by kernel_rfl) (by exact fun _ _ _ h => h) (Or.inl ⟨by rfl, ?_⟩) (hK _) ?_
            rotate_left
            · intro w hSw; (try dsimp only at hSw); go_simp; (try with_reducible rfl)
            try simp only [Act.put, List.setIfInBounds_toArray, List.set_cons_zero, List.set_cons_succ]
            refine wpAnyK_take2 (i := 11) (v := ?_) (by simp only [List.getElem?_toArray, List.getElem?_cons_succ, List.getElem?_cons_zero]; rfl) (by kernel_rfl) (by kernel_rfl) (by kernel_rfl) (by kernel_rfl) (by kernel_rfl) (by kernel_rfl) (by exact fun _ _ _ h => h) (Or.inl ⟨by rfl, ?_⟩) (hK _) ?_
            rotate_left
            · intro w hSw; (try dsimp only at hSw); go_simp; (try with_reducible rfl)
            try simp only [Act.put, List.setIfInBounds_toArray, List.set_cons_zero, List.set_cons_succ]
            refine wpAnyK_take2 (i := 12) (v := ?_) (by simp only [List.getElem?_toArray, List.getElem?_cons_succ, List.getElem?_cons_zero]; rfl) (by kernel_rfl) (by kernel_rfl) (by kernel_rfl) (by kernel_rfl) (by kernel_rfl) (by kernel_rfl) (by exact fun _ _ _ h => h) (Or.inl ⟨by rfl, ?_⟩) (hK _) ?_
            rotate_left
            · intro w hSw; (try dsimp only at hSw); go_simp; (try with_reducible rfl)
            try simp only [Act.put, List.setIfInBounds_toArray, List.set_cons_zero, List.set_cons_succ]
            refine wpAnyK_take2 (i := 13) (v := ?_) (by simp only [List.getElem?_toArray, List.getElem?_cons_succ, List.getElem?_cons_zero]; rfl) (by kernel_rfl) (by kernel_rfl) (by kernel_rfl) (by kernel_rfl) (by kernel_rfl) (by kernel_rfl) (by exact fun _ _ _ h => h) (Or.inl ⟨by rfl, ?_⟩) (hK _) ?_
            rotate_left
            · intro w hSw; (try dsimp only at hSw); go_simp; (try with_reducible rfl)
            try simp only [Act.put, List.setIfInBounds_toArray, List.set_cons_zero, List.set_cons_succ]
            refine wpAnyK_one (i := 7) (by kernel_rfl) (by simp only [List.getElem?_toArray, List.getElem?_cons_succ, List.getElem?_cons_zero]; rfl) (fun kC hkC => ?_)
            go_simp
            refine (take_any 2 2 4 0 2 t 1 s false x a v M _ hTd.s.m).mono ?_; rw [HD.out]; unfold handV; dsimp only; rintro e w5 ⟨rfl, hm, hk⟩; have hT5 := hTd.turnS hm hk; have m5 := HBm.out _ hT5.s.kp; have hx5 := (HX.out.x.keep ((Keeps.refl NoS _).drew) (fun f => f)).keep hk (HA.out.na (Nat.le_refl _)); have hy5 := (HX.out.y.keep ((Keeps.refl NoS _).drew) (fun f => f)).keep hk (HA.out.na (by omega)); have hX5 : (w5.cell? ⟨G, t * 5, none⟩ = some (.int .i64 t) ∧ w5.cell? ⟨G, t * 5 + 1, none⟩ = some (.int .i64 1) ∧ w5.cell? ⟨G, t * 5 + 2, none⟩ = some (.int .i64 s) ∧ w5.cell? ⟨G, t * 5 + 3, none⟩ = some (.bool false) ∧ w5.cell? ⟨G, t * 5 + 4, none⟩ = some (.int .i64 x)) := (HandC hx5 ht HF.out); have hY5 : (w5.cell? ⟨(G + 1), t * 5, none⟩ = some (.int .i64 t) ∧ w5.cell? ⟨(G + 1), t * 5 + 1, none⟩ = some (.int .i64 1) ∧ w5.cell? ⟨(G + 1), t * 5 + 2, none⟩ = some (.int .i64 s) ∧ w5.cell? ⟨(G + 1), t * 5 + 3, none⟩ = some (.bool false) ∧ w5.cell? ⟨(G + 1), t * 5 + 4, none⟩ = some (.int .i64 x)) := (HandC hy5 ht HF.out); clear hm hk
            (try go_wp2_with fail)
            refine hkC.out _ _ (⟨hX5, hY5, m5⟩) (⟨hY5, m5⟩) (fun hK => ?_)
            clear hkC kC
            try simp only [Act.put, List.setIfInBounds_toArray, List.set_cons_zero, List.set_cons_succ]
            refine wpAnyK_take1 (i := 15) (v := ?_) (by simp only [List.getElem?_toArray, List.getElem?_cons_succ, List.getElem?_cons_zero]; rfl) (by kernel_rfl) (by kernel_rfl) (by kernel_rfl) (by kernel_rfl) (by kernel_rfl) (by kernel_rfl) (by exact fun _ _ _ h => h) (Or.inl ⟨by rfl, ?_⟩) (hK _) ?_
            rotate_left
            · intro w hSw; (try dsimp only at hSw); go_simp; (try with_reducible rfl)
            try simp only [Act.put, List.setIfInBounds_toArray, List.set_cons_zero, List.set_cons_succ]
            refine wpAnyK_one (i := 9) (by kernel_rfl) (by simp only [List.getElem?_toArray, List.getElem?_cons_succ, List.getElem?_cons_zero]; rfl) (fun kC hkC => ?_)
            go_simp
            refine (ref_any ⟨2, 2, 4, 0, 2⟩ _).mono ?_; rintro e w6 ⟨rfl, hk⟩; have hT6 := hT5.keep hk; have m6 := HBm.out _ hT6.s.kp; have hx6 := hx5.keep hk (fun f => f); have hy6 := hy5.keep hk (fun f => f); have hX6 := (HandC hx6 ht HF.out); have hY6 := (HandC hy6 ht HF.out); unfold mapV; dsimp only
            (try go_wp2_with fail)
            refine hkC.out _ _ (⟨hX6, hY6, m6⟩) (⟨hY6, m6⟩) (fun hK => ?_)
            clear hkC kC
            try simp only [Act.put, List.setIfInBounds_toArray, List.set_cons_zero, List.set_cons_succ]
            refine wpAnyK_one (i := 14) (by kernel_rfl) (by simp only [List.getElem?_toArray, List.getElem?_cons_succ, List.getElem?_cons_zero]; rfl) (fun kC hkC => ?_)
            go_simp
            refine (rtake_any 2 2 4 0 2 t 1 s false x c u M _ hT6.r.m HM.out).mono ?_; rw [HD.out]; unfold handV; dsimp only; rintro e w7 ⟨rfl, hm, hk⟩; have hT7 := hT6.turnR hm hk; have m7 := HBm.out _ hT7.s.kp; have hx7 := hx6.keep hk (HA.out.nc (Nat.le_refl _)); have hy7 := hy6.keep hk (HA.out.nc (by omega)); have hX7 := (HandC hx7 ht HF.out); have hY7 := (HandC hy7 ht HF.out); have F0 := hx7.free (t * 5); have F1 := hx7.free (t * 5 + 1); have F2 := hx7.free (t * 5 + 2); have F3 := hx7.free (t * 5 + 3); have F4 := hx7.free (t * 5 + 4); have G0 := hy7.free (t * 5); have G1 := hy7.free (t * 5 + 1); have G2 := hy7.free (t * 5 + 2); have G3 := hy7.free (t * 5 + 3); have G4 := hy7.free (t * 5 + 4); have hl7 := hy7.lt; have hput7 := RunS.put (f := f) ⟨hT7, hx7, hy7⟩ HA.out t ht ⟨t', l', s', r', x'⟩; have HP := Lib.hid hput7; have hyS := HandC (hy7.outH (G' := G) (by omega) t ⟨t', l', s', r', x'⟩) ht HF.out; have mS := HBm.out _ (hT7.s.kp.setH (g := G) hWB t ⟨t', l', s', r', x'⟩); unfold setH at hyS mS; dsimp only at hyS mS; clear hm hk hput7
            (try go_wp2_with fail)
            refine hkC.out _ _ (⟨hX7, hY7, m7⟩) (⟨hY7, m7⟩) (fun hK => ?_)
            clear hkC kC
            try simp only [Act.put, List.setIfInBounds_toArray, List.set_cons_zero, List.set_cons_succ]
            refine wpAnyK_mid (i := 16) (by kernel_rfl) (by simp only [List.getElem?_toArray, List.getElem?_cons_succ, List.getElem?_cons_zero]; rfl) (by kernel_rfl) (fun kC hkC => ?_)
            go_simp
            refine hkC.out _ _ (⟨hyS, mS⟩) (fun hM => ?_)
            clear hkC kC
            try simp only [Act.put, List.setIfInBounds_toArray, List.set_cons_zero, List.set_cons_succ]
            refine wpAnyK_take2 (i := 17) (v := ?_) (by simp only [List.getElem?_toArray, List.getElem?_cons_succ, List.getElem?_cons_zero]; rfl) (by kernel_rfl) (by kernel_rfl) (by kernel_rfl) (by kernel_rfl) (by kernel_rfl) (by kernel_rfl) (by exact fun _ _ _ h => h) (Or.inl ⟨by rfl, ?_⟩) (ReqK.mid (by kernel_rfl) hM) ?_
            rotate_left
            · intro w hSw; (try dsimp only at hSw); go_simp; (try with_reducible rfl)
            try simp only [Act.put, List.setIfInBounds_toArray, List.set_cons_zero, List.set_cons_succ]
            refine wpAnyK_last (i := 18) (by kernel_rfl) (by simp only [List.getElem?_toArray, List.getElem?_cons_succ, List.getElem?_cons_zero]; rfl) (by kernel_rfl) (by kernel_rfl) (fun kC hkC => ?_)
            go_simp
            refine hkC.out _ _ ?_
            clear hkC kC
            try simp only [Act.put, List.setIfInBounds_toArray, List.set_cons_zero, List.set_cons_succ]
            refine wpAnyK_done (by kernel_rfl) ?_ _
            have hP := HP.out
            unfold setH at hP
            dsimp only at hP
            generalize (((((((((w7.setCell ⟨G, t * 5, none⟩ (.int .i64 t')).setCell ⟨G, t * 5 + 1, none⟩ (.int .i64 l')).setCell ⟨G, t * 5 + 2, none⟩ (.int .i64 s')).setCell ⟨G, t * 5 + 3, none⟩ (.bool r')).setCell ⟨G, t * 5 + 4, none⟩ (.int .i64 x')).setCell ⟨G + 1, t * 5, none⟩ (.int .i64 t')).setCell ⟨G + 1, t * 5 + 1, none⟩ (.int .i64 l')).setCell ⟨G + 1, t * 5 + 2, none⟩ (.int .i64 s')).setCell ⟨G + 1, t * 5 + 3, none⟩ (.bool r')).setCell ⟨G + 1, t * 5 + 4, none⟩ (.int .i64 x') = wz at *
            generalize hput f t ⟨t', l', s', r', x'⟩ = f' at *
            have HX' := Lib.hid hP
            clear hP HP HD HM HF H1 H9 hTd hT5 hT6 hT7 m5 m6 m7 hx5 hy5 hx6 hy6 hx7 hy7 hX5 hY5 hX6 hY6 hX7 hY7 F0 F1 F2 F3 F4 G0 G1 G2 G3 G4 hl7 hyS mS hM hK x0 x1 x2 x3 x4 y0 y1 y2 y3 y4 m0 m1 m2 m3 m4 f0 f1 f2 f3 f4 g0 g1 g2 g3 g4 hxl hyl hz hq cn
            clear HX HI
            go_wp2_with fail
            go_loopw [11, 12] (fun hv kv wq => ∃ k : Nat, k ≤ 4 ∧ hv = .int .i64 (heldN f' k : Nat) ∧ kv = .int .i64 k ∧ RunS W wq a c v u M' G f') (fun _ kv _ => 4 - (intOf kv).toNat)
            case atStart => exact ⟨0, by omega, rfl, rfl, HX'.out⟩
            case round =>
              obtain ⟨k, hk, rfl, rfl, hr⟩ := hrel
              have HK := Lib.hid hr
              clear hr HX'
              by_cases hk4 : k < 4
              · have hk1 : (0 : Int) ≤ (k : Int) := by omega
                have hk2 : (k : Int) < 4 := by omega
                have hst : heldN f' (k + 1) = heldN f' k + if (f' k).s = 9 then 1 else 0 := rfl
                have hhl := heldN_le f' k
                obtain ⟨fk, hfk⟩ : ∃ fk, f' k = fk := ⟨_, rfl⟩
                obtain ⟨ta, tb, tc, td, te⟩ := fk
                obtain ⟨x0, x1, x2, x3, x4⟩ := HandC HK.out.x hk4 hfk
                obtain ⟨y0, y1, y2, y3, y4⟩ := HandC HK.out.y hk4 hfk
                rw [hfk] at hst
                dsimp only at hst
                have HST := Lib.hid hst
                clear hst hfk
                generalize heldN f' k = cnt at *
                by_cases h9 : tc = 9
                · subst h9
                  go_wp2_with fail
                  go_quiet (fail)
                  go_wp2_with fail
                  go_roundw
                  case rel => exact ⟨k + 1, by omega, (by rw [HST.out]; simp only [if_true]; go_num), by go_num, HK.out.keep ((Keeps.refl NoS _).drewN _)⟩
                  case measure => simp [intOf]; omega
                · go_wp2_with fail
                  go_quiet (fail)
                  go_wp2_with fail
                  go_roundw
                  case rel => exact ⟨k + 1, by omega, (by rw [HST.out, if_neg h9]; go_num), by go_num, HK.out.keep ((Keeps.refl NoS _).drewN _)⟩
                  case measure => simp [intOf]; omega
              · obtain rfl : k = 4 := by omega
                have hc1 := HI'.out.one_held
                generalize heldN f' 4 = cnt at *
                have hc2 : (cnt : Int) ≤ 1 := by omega
                clear hc1
                go_wp2_with (go_at_call 26; refine (like_keep W _ a c v u M' HK.out.t).mono ?_; rintro e w8 ⟨rfl, hT8, hk8⟩)
                go_roundw
                case rel => exact ⟨n + 1, M', f', by omega, by go_num, HK.out.keep hk8, HI'.out⟩
                case measure => simp [intOf]; omega
        · obtain rfl : n = L.length := by omega
          go_wp2_with (first
            | (go_at_call 15; refine (told8_any _).mono ?_; rintro e w8 ⟨rfl, hk8⟩; have hT8 := HX.out.t.keep hk8)
            | (go_at_call 27; refine (same_any a c v u M M _ hT8.s.m hT8.r.m rfl).mono ?_; rintro e w9 ⟨rfl, hk9⟩))
          go_ret
          exact ⟨rfl, HWk.out.trans (hT8.s.kp.trans hk9)⟩
end Go.Proofs.Ytpledaolffmjdaa
