/- Whoever goes on, and whoever drops, step by step as the document says (the walk). -/
import Derived.Test.YtchgfdfdkcijnaaMcsTold
import Derived.Test.YtchgfdfdkcijnaaRuns
import Derived.Test.YtchgfdfdkcijnaaMemAll
namespace Go.Proofs.Ytchgfdfdkcijnaa
open Go.RowKit
theorem hput_up (t : Nat) (ht : t < 4) : ∀ k, k < 4 → hput (fun k => if k < t then (⟨k, 0, 0, false, 0⟩ : HandS) else hand0) t ⟨t, 0, 0, false, 0⟩ k = if k < t + 1 then (⟨k, 0, 0, false, 0⟩ : HandS) else hand0 := by
  intro k hk
  unfold hput
  by_cases e : k = t
  · subst e; simp
  · by_cases e2 : k < t
    · simp only [if_neg e, if_pos e2, if_pos (show k < t + 1 by omega)]
    · simp only [if_neg e, if_neg e2, if_neg (show ¬ k < t + 1 by omega)]
/-- who goes on -/
theorem pick4 (x : Int) : ∃ t : Nat, t < 4 ∧ (IntKind.u64.wrap x).tmod 4 = (t : Int) := by
  obtain ⟨h1, h2⟩ := u64_tmod_bd x 4 (by omega)
  exact ⟨((IntKind.u64.wrap x).tmod 4).toNat, by omega, by omega⟩
theorem mTakeI_hand {M : MemS} {t : Nat} (ht : t < 4) (s : Int) (x : Int) : ∃ M' s' x', mTakeI M ⟨t, 0, s, false, x⟩ = (M', ⟨t, 0, s', false, x'⟩) ∧ M'.L.length = M.L.length := by
  have hl := mTakeI_len M ⟨t, 0, s, false, x⟩
  have e : mTakeI M ⟨t, 0, s, false, x⟩ = mTake M t 0 s false x := mTakeI_nat ht (l := 0) (by decide) s false x
  rw [e] at hl ⊢
  have h : ∃ s' x', (mTake M t 0 s false x).2 = ⟨t, 0, s', false, x'⟩ := by
    unfold mTake
    repeat' split
    all_goals exact ⟨_, _, rfl⟩
  obtain ⟨s', x', h⟩ := h
  exact ⟨_, s', x', Prod.ext rfl h, hl⟩
theorem mDropI_hand {M : MemS} {t : Nat} (ht : t < 4) (s : Int) (x : Int) : ∃ M' s' x', mDropI M ⟨t, 0, s, false, x⟩ = (M', ⟨t, 0, s', false, x'⟩) ∧ M'.L.length = M.L.length := by
  have hl := mDropI_len M ⟨t, 0, s, false, x⟩
  have e : mDropI M ⟨t, 0, s, false, x⟩ = mDrop M t 0 s false x := mDropI_nat ht (l := 0) (by decide) s false x
  rw [e] at hl ⊢
  have h : ∃ s' x', (mDrop M t 0 s false x).2 = ⟨t, 0, s', false, x'⟩ := by
    unfold mDrop
    repeat' split
    all_goals exact ⟨_, _, rfl⟩
  obtain ⟨s', x', h⟩ := h
  exact ⟨_, s', x', Prod.ext rfl h, hl⟩
def RunsI (M : MemS) (f : Nat → HandS) : Prop := M.L.length = 48 ∧ ∀ t, t < 4 → ∃ s x, f t = ⟨t, 0, s, false, x⟩
theorem RunsI.put {M M' : MemS} {f : Nat → HandS} (h : RunsI M f) (hl : M'.L.length = M.L.length) {t : Nat} {s x : Int} : RunsI M' (hput f t ⟨t, 0, s, false, x⟩) := by
  refine ⟨hl.trans h.1, fun k hk => ?_⟩
  unfold hput
  by_cases e : k = t
  · subst e; exact ⟨s, x, by simp⟩
  · simp only [if_neg e]; exact h.2 k hk
set_option maxHeartbeats 40000000 in
set_option maxRecDepth 100000 in
theorem mcsRuns_walk (w : World) (p0 : Value) (L : List Int) (f0 : InI w p0 L) (_f1 : ∀ k, k < L.length → (Lit.int .i64 (L.getD k 0)).wf = true) : Calls Try.prog 6 #[p0] w fun e w' => e = .returned (.bool true) ∧ Keeps NoS w w' := by
  obtain ⟨p, cap, rfl, hn, hc, _⟩ := f0
  have HW := Lib.hid hc
  clear hc _f1
  by_cases h300 : L.length ≤ 300
  case neg =>
    go_enter Try.func6, Try.ntmps6
    have h300' : (300 : Int) < (L.length : Int) := by omega
    go_wp2_with (go_at_call 12; refine (told9_any _).mono ?_; rintro e w1 ⟨rfl, hk1⟩)
    go_ret
    exact ⟨rfl, hk1⟩
  go_enter Try.func6, Try.ntmps6
  go_wp2_with (first
    | (go_at_call 13; refine (map8_any _).mono ?_; rintro e w1 ⟨rfl, hk1⟩))
  have hB := mapAt_new w1 2 2 4 0 2 25
  have hk1' := hk1.alloc (.cells #[.int .i64 2, .int .i64 2, .int .i64 4, .int .i64 0, .int .i64 2] 25)
  obtain ⟨B, hBe⟩ : ∃ B, w1.heap.size = B := ⟨_, rfl⟩
  rw [hBe] at hB
  rw [hBe]
  generalize w1.alloc (.cells #[.int .i64 2, .int .i64 2, .int .i64 4, .int .i64 0, .int .i64 2] 25) = W1 at *
  refine (ref_any ⟨2, 2, 4, 0, 2⟩ _).mono ?_
  rintro e w1' ⟨rfl, hk1r⟩
  unfold mapV; dsimp only
  have hB1 := hB.keep hk1r (fun f => f)
  obtain ⟨m0, m1, m2, m3, m4⟩ := hB1.keep ((Keeps.refl NoS w1').alloc (.cells #[.int .i64 2, .int .i64 2, .int .i64 4, .int .i64 0, .int .i64 2] 49)) (fun f => f)
  go_wp2_with fail
  have hF := mapAt_new w1' 2 2 4 0 2 49
  have hkF := (hk1'.trans hk1r).alloc (.cells #[.int .i64 2, .int .i64 2, .int .i64 4, .int .i64 0, .int .i64 2] 49)
  have hB2 := hB1.keep ((Keeps.refl NoS w1').alloc (.cells #[.int .i64 2, .int .i64 2, .int .i64 4, .int .i64 0, .int .i64 2] 49)) (fun f => f)
  obtain ⟨F, hFe⟩ : ∃ F, w1'.heap.size = F := ⟨_, rfl⟩
  rw [hFe] at hF
  (try rw [hFe])
  clear m0 m1 m2 m3 m4 hB hB1
  generalize w1'.alloc (.cells #[.int .i64 2, .int .i64 2, .int .i64 4, .int .i64 0, .int .i64 2] 49) = W at *
  refine (both_any 2 2 4 0 2 48 m9_size (by decide) (by decide) W).mono ?_
  rintro e w2 ⟨a, c, v, u, rfl, hT⟩
  have HBm := Lib.hid (fun w' (h : Keeps NoS W w') => mapCs (hB2.keep h (fun f => f)))
  have HFm := Lib.hid (fun w' (h : Keeps NoS W w') => mapCs (hF.keep h (fun f => f)))
  obtain ⟨G, hG⟩ : ∃ G, w2.heap.size = G := ⟨_, rfl⟩
  obtain ⟨w3, hw3, hr, hA, hGl⟩ := rnS_new hG hT
  have HR := Lib.hid hr; have HA := Lib.hid hA; have HW3 := Lib.hid hw3
  have HWk := Lib.hid hkF
  have hWB : W.heap.size ≤ G := hA.w
  clear hBe hFe hk1 hk1' hk1r hkF hr hA hT hB2 hF hw3
  go_wp2_with fail
  rw [HW3.out]
  (try rw [hG])
  clear hG HW3 hGl
  go_loopw [10] (fun i wr => ∃ t : Nat, t ≤ 4 ∧ i = .int .i64 t ∧ RnS W wr a c v u (M0 48) G (fun k => if k < t then ⟨k, 0, 0, false, 0⟩ else hand0) (fun _ => false)) (fun i _ => 4 - (intOf i).toNat)
  case atStart => exact ⟨0, by omega, rfl, by simpa using HR.out⟩
  case round =>
    obtain ⟨t, ht, rfl, hr⟩ := hrel
    have HX := Lib.hid hr
    clear hr HR
    by_cases h4 : t < 4
    · have hxl := HX.out.r.x.lt
      have hyl := HX.out.r.y.lt
      have t0 : (0 : Int) ≤ (t : Int) := by omega
      have t4 : (t : Int) < 4 := by omega
      obtain ⟨x0, x1, x2, x3, x4⟩ := HX.out.r.x.cell t h4
      obtain ⟨f0, f1, f2, f3, f4⟩ := HX.out.r.x.frees t
      go_upto_region 14 with fail
      have hx1 := HX.out.r.x.setH t h4 ⟨t, 0, 0, false, 0⟩
      have hy1 := HX.out.r.y.outH (G' := G) (by omega) t ⟨t, 0, 0, false, 0⟩
      have HF := Lib.hid ((HX.out.put HA.out t h4 ⟨t, 0, 0, false, 0⟩))
      unfold setH at hx1 hy1
      dsimp only at hx1 hy1
      obtain ⟨wz, hwz⟩ : ∃ wz, setH wr G t ⟨t, 0, 0, false, 0⟩ = wz := ⟨_, rfl⟩
      rw [hwz] at HF
      unfold setH at hwz
      dsimp only at hwz
      rw [hwz] at hx1 hy1
      (try rw [hwz])
      clear x0 x1 x2 x3 x4 f0 f1 f2 f3 f4 hwz
      obtain ⟨x0, x1, x2, x3, x4⟩ := hx1.cell t h4
      simp only [hput, if_true] at x0 x1 x2 x3 x4
      obtain ⟨f0, f1, f2, f3, f4⟩ := hy1.frees t
      obtain ⟨y0, y1, y2, y3, y4⟩ := hy1.cell t h4
      have hyl1 := hy1.lt
      have hF2 := HF.out
      unfold setH at hF2
      dsimp only at hF2
      have HF2 := Lib.hid (hF2.r.congr (hput_up t h4))
      have HF3 := Lib.hid hF2.b
      clear hx1 hy1 HX HF hF2
      go_wp2_with fail
      go_roundw
      case rel => exact ⟨t + 1, by omega, by go_num, HF2.out, HF3.out⟩
      case measure => simp [intOf]; omega
    · have hr4 : RnS W wr a c v u (M0 48) G (fun k => ⟨k, 0, 0, false, 0⟩) (fun _ => false) := ⟨HX.out.r.congr (g := fun k => ⟨k, 0, 0, false, 0⟩) (fun k hk => by simp only [if_pos (show k < t by omega)]), HX.out.b⟩
      have HR4 := Lib.hid hr4
      clear HX hr4
      go_wp2_with fail
      go_loopw [11] (fun i wq => ∃ (n : Nat) (M : MemS) (f : Nat → HandS) (o : Nat → Bool), n ≤ L.length ∧ i = .int .i64 n ∧ RnS W wq a c v u M G f o ∧ RunsI M f) (fun i _ => L.length - (intOf i).toNat)
      case atStart => exact ⟨0, _, _, _, by omega, rfl, HR4.out, M0_len 48, fun t ht => ⟨0, 0, rfl⟩⟩
      case round =>
        obtain ⟨n, M, f, o, hnl, rfl, hr, hi⟩ := hrel
        have HX := Lib.hid hr; have HI := Lib.hid hi
        clear hr hi HR4
        by_cases hlt : n < L.length
        · obtain ⟨b, off, rfl, hcs⟩ := HW.out (fun e => by rw [e] at hlt; simp at hlt)
          have hcc := hcs n hlt
          have HCN := Lib.hid (fun w' (h : Keeps NoS W w') => (HWk.out.trans h).cell hcc (fun f => f))
          have cn := HCN.out _ HX.out.r.t.s.kp
          clear hcs hcc
          generalize L.getD n 0 = z at *
          obtain ⟨t, ht, hz⟩ := pick4 z
          have ht1 : (0 : Int) ≤ (t : Int) := by omega
          have ht2 : (t : Int) < 4 := by omega
          obtain ⟨s, x, hft⟩ := HI.out.2 t ht
          have HFT := Lib.hid hft
          clear hft
          obtain ⟨y0, y1, y2, y3, y4⟩ := HX.out.r.y.at ht HFT.out
          have o1 := HX.out.b.cell ht
          have o2 := HX.out.b.free t
          have hol := HX.out.b.lt
          obtain ⟨q, hq⟩ : ∃ q, ((IntKind.u64.wrap ((IntKind.u64.wrap z).tdiv 4)).tmod 2 == 0) = q := ⟨_, rfl⟩
          obtain ⟨ob, hob⟩ : ∃ q, o t = q := ⟨_, rfl⟩
          rw [hob] at o1
          have HOB := Lib.hid hob
          clear hob
          have hsp : (s = 9 ∧ q = true) ∨ (s = 9 ∧ q = false) ∨ s = 0 ∨ (¬ s = 9 ∧ ¬ s = 0 ∧ ob = true) ∨ (¬ s = 9 ∧ ¬ s = 0 ∧ ob = false) := by
            by_cases e : s = 9
            · cases q
              · exact .inr (.inl ⟨e, rfl⟩)
              · exact .inl ⟨e, rfl⟩
            · by_cases e0 : s = 0
              · exact .inr (.inr (.inl e0))
              · cases ob
                · exact .inr (.inr (.inr (.inr ⟨e, e0, rfl⟩)))
                · exact .inr (.inr (.inr (.inl ⟨e, e0, rfl⟩)))
          rcases hsp with ⟨rfl, rfl⟩ | ⟨rfl, rfl⟩ | rfl | ⟨hne, hn0, rfl⟩ | ⟨hne, hn0, rfl⟩
          · obtain ⟨M', s', x', hd, hln⟩ := mDropI_hand (M := M) ht 9 x
            have hoo := HX.out.out HA.out ht true
            have HX2 := Lib.hid hoo
            have HD := Lib.hid hd; have HM := Lib.hid HI.out.1; have HI' := Lib.hid (HI.out.put (t := t) (s := s') (x := x') hln)
            clear hd hln hoo
            obtain ⟨m0, m1, m2, m3, m4⟩ := HBm.out _ HX2.out.r.t.s.kp
            obtain ⟨n0, n1, n2, n3, n4⟩ := HFm.out _ HX2.out.r.t.s.kp
            have cn2 := HCN.out _ HX2.out.r.t.s.kp
            obtain ⟨u0, u1, u2, u3, u4⟩ := HX2.out.r.x.at ht HFT.out
            obtain ⟨v0, v1, v2, v3, v4⟩ := HX2.out.r.y.at ht HFT.out
            have o3 := HX2.out.b.cell ht
            simp only [bput, if_true] at o3
            have hxl := HX2.out.r.x.lt
            have hyl := HX2.out.r.y.lt
            go_upto_region 24 with fail
            obtain ⟨wp, hwp⟩ : ∃ wp, wr.setCell ⟨G + 1 + 1, t, none⟩ (.bool true) = wp := ⟨_, rfl⟩
            rw [hwp] at HX2 m0 m1 m2 m3 m4 n0 n1 n2 n3 n4 u0 u1 u2 u3 u4 v0 v1 v2 v3 v4 hxl hyl ⊢
            clear cn cn2 hz hq HCN y0 y1 y2 y3 y4 o1 o2 hol HX HI o3 hwp
            have hXd := HX2.out.no ((Keeps.refl NoS _).drew)
            refine wp_region_kept_drew 15 (fun w' => (w'.cell? ⟨G, t * 5, none⟩ = some (.int .i64 t) ∧ w'.cell? ⟨G, t * 5 + 1, none⟩ = some (.int .i64 0) ∧ w'.cell? ⟨G, t * 5 + 2, none⟩ = some (.int .i64 9) ∧ w'.cell? ⟨G, t * 5 + 3, none⟩ = some (.bool false) ∧ w'.cell? ⟨G, t * 5 + 4, none⟩ = some (.int .i64 x)) ∧ (w'.cell? ⟨(G + 1), t * 5, none⟩ = some (.int .i64 t) ∧ w'.cell? ⟨(G + 1), t * 5 + 1, none⟩ = some (.int .i64 0) ∧ w'.cell? ⟨(G + 1), t * 5 + 2, none⟩ = some (.int .i64 9) ∧ w'.cell? ⟨(G + 1), t * 5 + 3, none⟩ = some (.bool false) ∧ w'.cell? ⟨(G + 1), t * 5 + 4, none⟩ = some (.int .i64 x)) ∧ (w'.cell? ⟨B, 0, none⟩ = some (.int .i64 2) ∧ w'.cell? ⟨B, 1, none⟩ = some (.int .i64 2) ∧ w'.cell? ⟨B, 2, none⟩ = some (.int .i64 4) ∧ w'.cell? ⟨B, 3, none⟩ = some (.int .i64 0) ∧ w'.cell? ⟨B, 4, none⟩ = some (.int .i64 2)) ∧ (w'.cell? ⟨F, 0, none⟩ = some (.int .i64 2) ∧ w'.cell? ⟨F, 1, none⟩ = some (.int .i64 2) ∧ w'.cell? ⟨F, 2, none⟩ = some (.int .i64 4) ∧ w'.cell? ⟨F, 3, none⟩ = some (.int .i64 0) ∧ w'.cell? ⟨F, 4, none⟩ = some (.int .i64 2))) 17 (fun w' => (w'.cell? ⟨(G + 1), t * 5, none⟩ = some (.int .i64 t) ∧ w'.cell? ⟨(G + 1), t * 5 + 1, none⟩ = some (.int .i64 0) ∧ w'.cell? ⟨(G + 1), t * 5 + 2, none⟩ = some (.int .i64 9) ∧ w'.cell? ⟨(G + 1), t * 5 + 3, none⟩ = some (.bool false) ∧ w'.cell? ⟨(G + 1), t * 5 + 4, none⟩ = some (.int .i64 x)) ∧ (w'.cell? ⟨B, 0, none⟩ = some (.int .i64 2) ∧ w'.cell? ⟨B, 1, none⟩ = some (.int .i64 2) ∧ w'.cell? ⟨B, 2, none⟩ = some (.int .i64 4) ∧ w'.cell? ⟨B, 3, none⟩ = some (.int .i64 0) ∧ w'.cell? ⟨B, 4, none⟩ = some (.int .i64 2)) ∧ (w'.cell? ⟨F, 0, none⟩ = some (.int .i64 2) ∧ w'.cell? ⟨F, 1, none⟩ = some (.int .i64 2) ∧ w'.cell? ⟨F, 2, none⟩ = some (.int .i64 4) ∧ w'.cell? ⟨F, 3, none⟩ = some (.int .i64 0) ∧ w'.cell? ⟨F, 4, none⟩ = some (.int .i64 2))) (by kernel_rfl) (⟨⟨u0, u1, u2, u3, u4⟩, ⟨v0, v1, v2, v3, v4⟩, ⟨m0, m1, m2, m3, m4⟩, ⟨n0, n1, n2, n3, n4⟩⟩) (⟨⟨v0, v1, v2, v3, v4⟩, ⟨m0, m1, m2, m3, m4⟩, ⟨n0, n1, n2, n3, n4⟩⟩) (fun hK => ?_)
            refine wpAnyK_take1 (i := 0) (v := ?_) (by simp only [List.getElem?_toArray, List.getElem?_cons_succ, List.getElem?_cons_zero]; rfl) (by kernel_rfl) (by kernel_rfl) (by kernel_rfl) (by kernel_rfl) (by kernel_rfl) (by kernel_rfl) (by exact fun _ _ _ h => h) (Or.inl ⟨by rfl, ?_⟩) (hK _) ?_
            rotate_left
            · intro w hSw; (try dsimp only at hSw); go_simp; (try with_reducible rfl)
            try simp only [Act.put, List.setIfInBounds_toArray, List.set_cons_zero, List.set_cons_succ]
            refine wpAnyK_take2 (i := 1) (v := ?_) (by simp only [List.getElem?_toArray, List.getElem?_cons_succ, List.getElem?_cons_zero]; rfl) (by kernel_rfl) (by kernel_rfl) (by kernel_rfl) (by kernel_rfl) (by kernel_rfl) (by kernel_rfl) (by exact fun _ _ _ h => h) (Or.inl ⟨by rfl, ?_⟩) (hK _) ?_
            rotate_left
            · intro w hSw; (try dsimp only at hSw); go_simp; (try with_reducible rfl)
            try simp only [Act.put, List.setIfInBounds_toArray, List.set_cons_zero, List.set_cons_succ]
            refine wpAnyK_take1 (i := 2) (v := ?_) (by simp only [List.getElem?_toArray, List.getElem?_cons_succ, List.getElem?_cons_zero]; rfl) (by kernel_rfl) (by kernel_rfl) (by kernel_rfl) (by kernel_rfl) (by kernel_rfl) (by kernel_rfl) (by exact fun _ _ _ h => h) (Or.inl ⟨by rfl, ?_⟩) (hK _) ?_
            rotate_left
            · intro w hSw; (try dsimp only at hSw); go_simp; (try with_reducible rfl)
            try simp only [Act.put, List.setIfInBounds_toArray, List.set_cons_zero, List.set_cons_succ]
            refine wpAnyK_take1 (i := 3) (v := ?_) (by simp only [List.getElem?_toArray, List.getElem?_cons_succ, List.getElem?_cons_zero]; rfl) (by kernel_rfl) (by kernel_rfl) (by kernel_rfl) (by kernel_rfl) (by kernel_rfl) (by kernel_rfl) (by exact fun _ _ _ h => h) (Or.inl ⟨by rfl, ?_⟩) (hK _) ?_
            rotate_left
            · intro w hSw; (try dsimp only at hSw); go_simp; (try with_reducible rfl)
            try simp only [Act.put, List.setIfInBounds_toArray, List.set_cons_zero, List.set_cons_succ]
            refine wpAnyK_take1 (i := 4) (v := ?_) (by simp only [List.getElem?_toArray, List.getElem?_cons_succ, List.getElem?_cons_zero]; rfl) (by kernel_rfl) (by kernel_rfl) (by kernel_rfl) (by kernel_rfl) (by kernel_rfl) (by kernel_rfl) (by exact fun _ _ _ h => h) (Or.inl ⟨by rfl, ?_⟩) (hK _) ?_
            rotate_left
            · intro w hSw; (try dsimp only at hSw); go_simp; (try with_reducible rfl)
            try simp only [Act.put, List.setIfInBounds_toArray, List.set_cons_zero, List.set_cons_succ]
            refine wpAnyK_take1 (i := 5) (v := ?_) (by simp only [List.getElem?_toArray, List.getElem?_cons_succ, List.getElem?_cons_zero]; rfl) (by kernel_rfl) (by kernel_rfl) (by kernel_rfl) (by kernel_rfl) (by kernel_rfl) (by kernel_rfl) (by exact fun _ _ _ h => h) (Or.inl ⟨by rfl, ?_⟩) (hK _) ?_
            rotate_left
            · intro w hSw; (try dsimp only at hSw); go_simp; (try with_reducible rfl)
            try simp only [Act.put, List.setIfInBounds_toArray, List.set_cons_zero, List.set_cons_succ]
            refine wpAnyK_take1 (i := 6) (v := ?_) (by simp only [List.getElem?_toArray, List.getElem?_cons_succ, List.getElem?_cons_zero]; rfl) (by kernel_rfl) (by kernel_rfl) (by kernel_rfl) (by kernel_rfl) (by kernel_rfl) (by kernel_rfl) (by exact fun _ _ _ h => h) (Or.inl ⟨by rfl, ?_⟩) (hK _) ?_
            rotate_left
            · intro w hSw; (try dsimp only at hSw); go_simp; (try with_reducible rfl)
            try simp only [Act.put, List.setIfInBounds_toArray, List.set_cons_zero, List.set_cons_succ]
            refine wpAnyK_take2 (i := 8) (v := ?_) (by simp only [List.getElem?_toArray, List.getElem?_cons_succ, List.getElem?_cons_zero]; rfl) (by kernel_rfl) (by kernel_rfl) (by kernel_rfl) (by kernel_rfl) (by kernel_rfl) (by kernel_rfl) (by exact fun _ _ _ h => h) (Or.inl ⟨by rfl, ?_⟩) (hK _) ?_
            rotate_left
            · intro w hSw; (try dsimp only at hSw); go_simp; (try with_reducible rfl)
            try simp only [Act.put, List.setIfInBounds_toArray, List.set_cons_zero, List.set_cons_succ]
            refine wpAnyK_take2 (i := 9) (v := ?_) (by simp only [List.getElem?_toArray, List.getElem?_cons_succ, List.getElem?_cons_zero]; rfl) (by kernel_rfl) (by kernel_rfl) (by kernel_rfl) (by kernel_rfl) (by kernel_rfl) (by kernel_rfl) (by exact fun _ _ _ h => h) (Or.inl ⟨by rfl, ?_⟩) (hK _) ?_
            rotate_left
            · intro w hSw; (try dsimp only at hSw); go_simp; (try with_reducible rfl)
            try simp only [Act.put, List.setIfInBounds_toArray, List.set_cons_zero, List.set_cons_succ]
            refine wpAnyK_take2 (i := 10) (v := ?_) (by simp only [List.getElem?_toArray, List.getElem?_cons_succ, List.getElem?_cons_zero]; rfl) (by kernel_rfl) (by kernel_rfl) (by kernel_rfl) (by kernel_rfl) (by kernel_rfl) (by kernel_rfl) (by exact fun _ _ _ h => h) (Or.inl ⟨by rfl, ?_⟩) (hK _) ?_
            rotate_left
            · intro w hSw; (try dsimp only at hSw); go_simp; (try with_reducible rfl)
            try simp only [Act.put, List.setIfInBounds_toArray, List.set_cons_zero, List.set_cons_succ]
            refine wpAnyK_take2 (i := 11) (v := ?_) (by simp only [List.getElem?_toArray, List.getElem?_cons_succ, List.getElem?_cons_zero]; rfl) (by kernel_rfl) (by kernel_rfl) (by kernel_rfl) (by kernel_rfl) (by kernel_rfl) (by kernel_rfl) (by exact fun _ _ _ h => h) (Or.inl ⟨by rfl, ?_⟩) (hK _) ?_
            rotate_left
            · intro w hSw; (try dsimp only at hSw); go_simp; (try with_reducible rfl)
            try simp only [Act.put, List.setIfInBounds_toArray, List.set_cons_zero, List.set_cons_succ]
            refine wpAnyK_take2 (i := 12) (v := ?_) (by simp only [List.getElem?_toArray, List.getElem?_cons_succ, List.getElem?_cons_zero]; rfl) (by kernel_rfl) (by kernel_rfl) (by kernel_rfl) (by kernel_rfl) (by kernel_rfl) (by kernel_rfl) (by exact fun _ _ _ h => h) (Or.inl ⟨by rfl, ?_⟩) (hK _) ?_
            rotate_left
            · intro w hSw; (try dsimp only at hSw); go_simp; (try with_reducible rfl)
            try simp only [Act.put, List.setIfInBounds_toArray, List.set_cons_zero, List.set_cons_succ]
            refine wpAnyK_one (i := 7) (by kernel_rfl) (by simp only [List.getElem?_toArray, List.getElem?_cons_succ, List.getElem?_cons_zero]; rfl) (fun kC hkC => ?_)
            go_simp
            refine (drop8_any t 0 9 false x a v M _ hXd.r.t.s.m HM.out).mono ?_; rw [HD.out]; unfold handV; dsimp only; rintro e w5 ⟨rfl, hm, hk⟩; have hT5 := hXd.r.t.turnS hm hk; have hx5 := hXd.r.x.keep hk (HA.out.na (Nat.le_refl _)); have hy5 := hXd.r.y.keep hk (HA.out.na (by omega)); have hb5 := hXd.b.keep hk (HA.out.na (by omega)); have m5 := HBm.out _ hT5.s.kp; have n5 := HFm.out _ hT5.s.kp; have hX5 := hx5.at ht HFT.out; have hY5 := hy5.at ht HFT.out; clear hm hk
            (try go_wp2_with fail)
            refine hkC.out _ _ (⟨hX5, hY5, m5, n5⟩) (⟨hY5, m5, n5⟩) (fun hK => ?_)
            clear hkC kC
            try simp only [Act.put, List.setIfInBounds_toArray, List.set_cons_zero, List.set_cons_succ]
            refine wpAnyK_take1 (i := 14) (v := ?_) (by simp only [List.getElem?_toArray, List.getElem?_cons_succ, List.getElem?_cons_zero]; rfl) (by kernel_rfl) (by kernel_rfl) (by kernel_rfl) (by kernel_rfl) (by kernel_rfl) (by kernel_rfl) (by exact fun _ _ _ h => h) (Or.inl ⟨by rfl, ?_⟩) (hK _) ?_
            rotate_left
            · intro w hSw; (try dsimp only at hSw); go_simp; (try with_reducible rfl)
            try simp only [Act.put, List.setIfInBounds_toArray, List.set_cons_zero, List.set_cons_succ]
            refine wpAnyK_one (i := 13) (by kernel_rfl) (by simp only [List.getElem?_toArray, List.getElem?_cons_succ, List.getElem?_cons_zero]; rfl) (fun kC hkC => ?_)
            go_simp
            refine (rdrop8_any t 0 9 false x c u M _ hT5.r.m HM.out).mono ?_; rw [HD.out]; unfold handV; dsimp only; rintro e w7 ⟨rfl, hm, hk⟩; have hT7 := hT5.turnR hm hk; have hx7 := hx5.keep hk (HA.out.nc (Nat.le_refl _)); have hy7 := hy5.keep hk (HA.out.nc (by omega)); have hb7 := hb5.keep hk (HA.out.nc (by omega)); have m7 := HBm.out _ hT7.s.kp; have n7 := HFm.out _ hT7.s.kp; have hX7 := hx7.at ht HFT.out; have hY7 := hy7.at ht HFT.out; obtain ⟨F0, F1, F2, F3, F4⟩ := hx7.frees t; obtain ⟨G0, G1, G2, G3, G4⟩ := hy7.frees t; have hl7 := hy7.lt; have hput7 := RnS.put (f := f) ⟨⟨hT7, hx7, hy7⟩, hb7⟩ HA.out t ht ⟨t, 0, s', false, x'⟩; have HP := Lib.hid hput7; have hyS := (hy7.outH (G' := G) (by omega) t ⟨t, 0, s', false, x'⟩).at ht HFT.out; have mS := HBm.out _ (hT7.s.kp.setH (g := G) hWB t ⟨t, 0, s', false, x'⟩); have nS := HFm.out _ (hT7.s.kp.setH (g := G) hWB t ⟨t, 0, s', false, x'⟩); unfold setH at hyS mS nS; dsimp only at hyS mS nS; clear hm hk hput7
            (try go_wp2_with fail)
            refine hkC.out _ _ (⟨hX7, hY7, m7, n7⟩) (⟨hY7, m7, n7⟩) (fun hK => ?_)
            clear hkC kC
            try simp only [Act.put, List.setIfInBounds_toArray, List.set_cons_zero, List.set_cons_succ]
            refine wpAnyK_mid (i := 15) (by kernel_rfl) (by simp only [List.getElem?_toArray, List.getElem?_cons_succ, List.getElem?_cons_zero]; rfl) (by kernel_rfl) (fun kC hkC => ?_)
            go_simp
            refine hkC.out _ _ (⟨hyS, mS, nS⟩) (fun hM => ?_)
            clear hkC kC
            try simp only [Act.put, List.setIfInBounds_toArray, List.set_cons_zero, List.set_cons_succ]
            refine wpAnyK_take2 (i := 16) (v := ?_) (by simp only [List.getElem?_toArray, List.getElem?_cons_succ, List.getElem?_cons_zero]; rfl) (by kernel_rfl) (by kernel_rfl) (by kernel_rfl) (by kernel_rfl) (by kernel_rfl) (by kernel_rfl) (by exact fun _ _ _ h => h) (Or.inl ⟨by rfl, ?_⟩) (ReqK.mid (by kernel_rfl) hM) ?_
            rotate_left
            · intro w hSw; (try dsimp only at hSw); go_simp; (try with_reducible rfl)
            try simp only [Act.put, List.setIfInBounds_toArray, List.set_cons_zero, List.set_cons_succ]
            refine wpAnyK_last (i := 17) (by kernel_rfl) (by simp only [List.getElem?_toArray, List.getElem?_cons_succ, List.getElem?_cons_zero]; rfl) (by kernel_rfl) (by kernel_rfl) (fun kC hkC => ?_)
            go_simp
            refine hkC.out _ _ ?_
            clear hkC kC
            try simp only [Act.put, List.setIfInBounds_toArray, List.set_cons_zero, List.set_cons_succ]
            refine wpAnyK_done (by kernel_rfl) ?_ _
            have hP := HP.out
            unfold setH at hP
            dsimp only at hP
            generalize (((((((((w7.setCell ⟨G, t * 5, none⟩ (.int .i64 t)).setCell ⟨G, t * 5 + 1, none⟩ (.int .i64 0)).setCell ⟨G, t * 5 + 2, none⟩ (.int .i64 s')).setCell ⟨G, t * 5 + 3, none⟩ (.bool false)).setCell ⟨G, t * 5 + 4, none⟩ (.int .i64 x')).setCell ⟨(G + 1), t * 5, none⟩ (.int .i64 t)).setCell ⟨(G + 1), t * 5 + 1, none⟩ (.int .i64 0)).setCell ⟨(G + 1), t * 5 + 2, none⟩ (.int .i64 s')).setCell ⟨(G + 1), t * 5 + 3, none⟩ (.bool false)).setCell ⟨(G + 1), t * 5 + 4, none⟩ (.int .i64 x') = wz at *
            have hft' : hput f t ⟨t, 0, s', false, x'⟩ t = ⟨t, 0, s', false, x'⟩ := by simp [hput]
            generalize hput f t ⟨t, 0, s', false, x'⟩ = f' at *
            have HX' := Lib.hid hP; have HFT' := Lib.hid hft'
            clear hP HP hft' hT5 hT7 hx5 hx7 hy5 hy7 hb5 hb7 m5 m7 n5 n7 hX5 hX7 hY5 hY7 F0 F1 F2 F3 F4 G0 G1 G2 G3 G4 hl7 hyS mS nS hXd hK hM u0 u1 u2 u3 u4 v0 v1 v2 v3 v4 m0 m1 m2 m3 m4 n0 n1 n2 n3 n4 HX2 hxl hyl
            obtain ⟨u0, u1, u2, u3, u4⟩ := HX'.out.r.x.at ht HFT'.out
            obtain ⟨v0, v1, v2, v3, v4⟩ := HX'.out.r.y.at ht HFT'.out
            have hTd := HX'.out.r.t.keep ((Keeps.refl NoS _).drew)
            go_wp2_with fail
            refine wp_region_held_drew (S := (fun w' => (w'.cell? ⟨G, t * 5, none⟩ = some (.int .i64 t) ∧ w'.cell? ⟨G, t * 5 + 1, none⟩ = some (.int .i64 0) ∧ w'.cell? ⟨G, t * 5 + 2, none⟩ = some (.int .i64 s') ∧ w'.cell? ⟨G, t * 5 + 3, none⟩ = some (.bool false) ∧ w'.cell? ⟨G, t * 5 + 4, none⟩ = some (.int .i64 x')) ∧ (w'.cell? ⟨(G + 1), t * 5, none⟩ = some (.int .i64 t) ∧ w'.cell? ⟨(G + 1), t * 5 + 1, none⟩ = some (.int .i64 0) ∧ w'.cell? ⟨(G + 1), t * 5 + 2, none⟩ = some (.int .i64 s') ∧ w'.cell? ⟨(G + 1), t * 5 + 3, none⟩ = some (.bool false) ∧ w'.cell? ⟨(G + 1), t * 5 + 4, none⟩ = some (.int .i64 x')))) (by kernel_rfl) (⟨⟨u0, u1, u2, u3, u4⟩, ⟨v0, v1, v2, v3, v4⟩⟩) (fun hHeld => ?_)
            refine wpAnyH_take (i := 0) (v := ?_) (by simp only [List.getElem?_toArray, List.getElem?_cons_succ, List.getElem?_cons_zero]; rfl) (by kernel_rfl) (by kernel_rfl) (by kernel_rfl) (by exact fun _ _ _ h => h) (Or.inl ⟨by rfl, ?_⟩) hHeld ?_
            rotate_left
            · intro w hSw; (try dsimp only at hSw); go_simp; (try with_reducible rfl)
            try simp only [Act.put, List.setIfInBounds_toArray, List.set_cons_zero, List.set_cons_succ]
            refine wpAnyH_take (i := 1) (v := ?_) (by simp only [List.getElem?_toArray, List.getElem?_cons_succ, List.getElem?_cons_zero]; rfl) (by kernel_rfl) (by kernel_rfl) (by kernel_rfl) (by exact fun _ _ _ h => h) (Or.inl ⟨by rfl, ?_⟩) hHeld ?_
            rotate_left
            · intro w hSw; (try dsimp only at hSw); go_simp; (try with_reducible rfl)
            try simp only [Act.put, List.setIfInBounds_toArray, List.set_cons_zero, List.set_cons_succ]
            refine wpAnyH_take (i := 2) (v := ?_) (by simp only [List.getElem?_toArray, List.getElem?_cons_succ, List.getElem?_cons_zero]; rfl) (by kernel_rfl) (by kernel_rfl) (by kernel_rfl) (by exact fun _ _ _ h => h) (Or.inl ⟨by rfl, ?_⟩) hHeld ?_
            rotate_left
            · intro w hSw; (try dsimp only at hSw); go_simp; (try with_reducible rfl)
            try simp only [Act.put, List.setIfInBounds_toArray, List.set_cons_zero, List.set_cons_succ]
            refine wpAnyH_take (i := 3) (v := ?_) (by simp only [List.getElem?_toArray, List.getElem?_cons_succ, List.getElem?_cons_zero]; rfl) (by kernel_rfl) (by kernel_rfl) (by kernel_rfl) (by exact fun _ _ _ h => h) (Or.inl ⟨by rfl, ?_⟩) hHeld ?_
            rotate_left
            · intro w hSw; (try dsimp only at hSw); go_simp; (try with_reducible rfl)
            try simp only [Act.put, List.setIfInBounds_toArray, List.set_cons_zero, List.set_cons_succ]
            refine wpAnyH_take (i := 4) (v := ?_) (by simp only [List.getElem?_toArray, List.getElem?_cons_succ, List.getElem?_cons_zero]; rfl) (by kernel_rfl) (by kernel_rfl) (by kernel_rfl) (by exact fun _ _ _ h => h) (Or.inl ⟨by rfl, ?_⟩) hHeld ?_
            rotate_left
            · intro w hSw; (try dsimp only at hSw); go_simp; (try with_reducible rfl)
            try simp only [Act.put, List.setIfInBounds_toArray, List.set_cons_zero, List.set_cons_succ]
            refine wpAnyH_take (i := 5) (v := ?_) (by simp only [List.getElem?_toArray, List.getElem?_cons_succ, List.getElem?_cons_zero]; rfl) (by kernel_rfl) (by kernel_rfl) (by kernel_rfl) (by exact fun _ _ _ h => h) (Or.inl ⟨by rfl, ?_⟩) hHeld ?_
            rotate_left
            · intro w hSw; (try dsimp only at hSw); go_simp; (try with_reducible rfl)
            try simp only [Act.put, List.setIfInBounds_toArray, List.set_cons_zero, List.set_cons_succ]
            refine wpAnyH_take (i := 6) (v := ?_) (by simp only [List.getElem?_toArray, List.getElem?_cons_succ, List.getElem?_cons_zero]; rfl) (by kernel_rfl) (by kernel_rfl) (by kernel_rfl) (by exact fun _ _ _ h => h) (Or.inl ⟨by rfl, ?_⟩) hHeld ?_
            rotate_left
            · intro w hSw; (try dsimp only at hSw); go_simp; (try with_reducible rfl)
            try simp only [Act.put, List.setIfInBounds_toArray, List.set_cons_zero, List.set_cons_succ]
            refine wpAnyH_take (i := 7) (v := ?_) (by simp only [List.getElem?_toArray, List.getElem?_cons_succ, List.getElem?_cons_zero]; rfl) (by kernel_rfl) (by kernel_rfl) (by kernel_rfl) (by exact fun _ _ _ h => h) (Or.inl ⟨by rfl, ?_⟩) hHeld ?_
            rotate_left
            · intro w hSw; (try dsimp only at hSw); go_simp; (try with_reducible rfl)
            try simp only [Act.put, List.setIfInBounds_toArray, List.set_cons_zero, List.set_cons_succ]
            refine wpAnyH_take (i := 8) (v := ?_) (by simp only [List.getElem?_toArray, List.getElem?_cons_succ, List.getElem?_cons_zero]; rfl) (by kernel_rfl) (by kernel_rfl) (by kernel_rfl) (by exact fun _ _ _ h => h) (Or.inl ⟨by rfl, ?_⟩) hHeld ?_
            rotate_left
            · intro w hSw; (try dsimp only at hSw); go_simp; (try with_reducible rfl)
            try simp only [Act.put, List.setIfInBounds_toArray, List.set_cons_zero, List.set_cons_succ]
            refine wpAnyH_take (i := 9) (v := ?_) (by simp only [List.getElem?_toArray, List.getElem?_cons_succ, List.getElem?_cons_zero]; rfl) (by kernel_rfl) (by kernel_rfl) (by kernel_rfl) (by exact fun _ _ _ h => h) (Or.inl ⟨by rfl, ?_⟩) hHeld ?_
            rotate_left
            · intro w hSw; (try dsimp only at hSw); go_simp; (try with_reducible rfl)
            try simp only [Act.put, List.setIfInBounds_toArray, List.set_cons_zero, List.set_cons_succ]
            refine wpAnyH_ready (rs := [10]) (by kernel_rfl) (by simp) ?_
            refine AllReadyH.cons (by simp only [List.getElem?_toArray, List.getElem?_cons_succ, List.getElem?_cons_zero]; rfl) (fun kC hkC => ?_) AllReadyH.nil
            go_simp
            refine (like_keep W _ a c v u M' hTd).mono ?_; rintro e w8 ⟨rfl, hT8, hk8⟩; have hX8 := (HX'.out.no ((Keeps.refl NoS _).drew)).no hk8
            (try go_wp2_with fail)
            refine hkC.out _ _ (And.intro (hX8.r.x.at ht HFT'.out) (hX8.r.y.at ht HFT'.out)) (fun hHeld => ?_)
            clear hkC kC
            try simp only [Act.put, List.setIfInBounds_toArray, List.set_cons_zero, List.set_cons_succ]
            refine wpAnyH_take (i := 11) (v := ?_) (by simp only [List.getElem?_toArray, List.getElem?_cons_succ, List.getElem?_cons_zero]; rfl) (by kernel_rfl) (by kernel_rfl) (by kernel_rfl) (by exact fun _ _ _ h => h) (Or.inl ⟨by rfl, ?_⟩) hHeld ?_
            rotate_left
            · intro w hSw; (try dsimp only at hSw); go_simp; (try with_reducible rfl)
            try simp only [Act.put, List.setIfInBounds_toArray, List.set_cons_zero, List.set_cons_succ]
            refine wpAnyH_take (i := 12) (v := ?_) (by simp only [List.getElem?_toArray, List.getElem?_cons_succ, List.getElem?_cons_zero]; rfl) (by kernel_rfl) (by kernel_rfl) (by kernel_rfl) (by exact fun _ _ _ h => h) (Or.inl ⟨by rfl, ?_⟩) hHeld ?_
            rotate_left
            · intro w hSw; (try dsimp only at hSw); go_simp; (try with_reducible rfl)
            try simp only [Act.put, List.setIfInBounds_toArray, List.set_cons_zero, List.set_cons_succ]
            refine wpAnyH_done (by kernel_rfl) ?_ _
            go_wp2_with fail
            go_roundw
            case rel => exact ⟨n + 1, M', f', _, by omega, by go_num, hX8, HI'.out⟩
            case measure => simp [intOf]; omega
          · obtain ⟨M', s', x', hd, hln⟩ := mTakeI_hand (M := M) ht 9 x
            have hoo := HX.out.out HA.out ht false
            have HX2 := Lib.hid hoo
            have HD := Lib.hid hd; have HM := Lib.hid HI.out.1; have HI' := Lib.hid (HI.out.put (t := t) (s := s') (x := x') hln)
            clear hd hln hoo
            obtain ⟨m0, m1, m2, m3, m4⟩ := HBm.out _ HX2.out.r.t.s.kp
            obtain ⟨n0, n1, n2, n3, n4⟩ := HFm.out _ HX2.out.r.t.s.kp
            have cn2 := HCN.out _ HX2.out.r.t.s.kp
            obtain ⟨u0, u1, u2, u3, u4⟩ := HX2.out.r.x.at ht HFT.out
            obtain ⟨v0, v1, v2, v3, v4⟩ := HX2.out.r.y.at ht HFT.out
            have o3 := HX2.out.b.cell ht
            simp only [bput, if_true] at o3
            have hxl := HX2.out.r.x.lt
            have hyl := HX2.out.r.y.lt
            go_upto_region 25 with fail
            obtain ⟨wp, hwp⟩ : ∃ wp, wr.setCell ⟨G + 1 + 1, t, none⟩ (.bool false) = wp := ⟨_, rfl⟩
            rw [hwp] at HX2 m0 m1 m2 m3 m4 n0 n1 n2 n3 n4 u0 u1 u2 u3 u4 v0 v1 v2 v3 v4 hxl hyl ⊢
            clear cn cn2 hz hq HCN y0 y1 y2 y3 y4 o1 o2 hol HX HI o3 hwp
            have hXd := HX2.out.no ((Keeps.refl NoS _).drew)
            refine wp_region_kept_drew 15 (fun w' => (w'.cell? ⟨G, t * 5, none⟩ = some (.int .i64 t) ∧ w'.cell? ⟨G, t * 5 + 1, none⟩ = some (.int .i64 0) ∧ w'.cell? ⟨G, t * 5 + 2, none⟩ = some (.int .i64 9) ∧ w'.cell? ⟨G, t * 5 + 3, none⟩ = some (.bool false) ∧ w'.cell? ⟨G, t * 5 + 4, none⟩ = some (.int .i64 x)) ∧ (w'.cell? ⟨(G + 1), t * 5, none⟩ = some (.int .i64 t) ∧ w'.cell? ⟨(G + 1), t * 5 + 1, none⟩ = some (.int .i64 0) ∧ w'.cell? ⟨(G + 1), t * 5 + 2, none⟩ = some (.int .i64 9) ∧ w'.cell? ⟨(G + 1), t * 5 + 3, none⟩ = some (.bool false) ∧ w'.cell? ⟨(G + 1), t * 5 + 4, none⟩ = some (.int .i64 x)) ∧ (w'.cell? ⟨B, 0, none⟩ = some (.int .i64 2) ∧ w'.cell? ⟨B, 1, none⟩ = some (.int .i64 2) ∧ w'.cell? ⟨B, 2, none⟩ = some (.int .i64 4) ∧ w'.cell? ⟨B, 3, none⟩ = some (.int .i64 0) ∧ w'.cell? ⟨B, 4, none⟩ = some (.int .i64 2)) ∧ (w'.cell? ⟨F, 0, none⟩ = some (.int .i64 2) ∧ w'.cell? ⟨F, 1, none⟩ = some (.int .i64 2) ∧ w'.cell? ⟨F, 2, none⟩ = some (.int .i64 4) ∧ w'.cell? ⟨F, 3, none⟩ = some (.int .i64 0) ∧ w'.cell? ⟨F, 4, none⟩ = some (.int .i64 2))) 17 (fun w' => (w'.cell? ⟨(G + 1), t * 5, none⟩ = some (.int .i64 t) ∧ w'.cell? ⟨(G + 1), t * 5 + 1, none⟩ = some (.int .i64 0) ∧ w'.cell? ⟨(G + 1), t * 5 + 2, none⟩ = some (.int .i64 9) ∧ w'.cell? ⟨(G + 1), t * 5 + 3, none⟩ = some (.bool false) ∧ w'.cell? ⟨(G + 1), t * 5 + 4, none⟩ = some (.int .i64 x)) ∧ (w'.cell? ⟨B, 0, none⟩ = some (.int .i64 2) ∧ w'.cell? ⟨B, 1, none⟩ = some (.int .i64 2) ∧ w'.cell? ⟨B, 2, none⟩ = some (.int .i64 4) ∧ w'.cell? ⟨B, 3, none⟩ = some (.int .i64 0) ∧ w'.cell? ⟨B, 4, none⟩ = some (.int .i64 2)) ∧ (w'.cell? ⟨F, 0, none⟩ = some (.int .i64 2) ∧ w'.cell? ⟨F, 1, none⟩ = some (.int .i64 2) ∧ w'.cell? ⟨F, 2, none⟩ = some (.int .i64 4) ∧ w'.cell? ⟨F, 3, none⟩ = some (.int .i64 0) ∧ w'.cell? ⟨F, 4, none⟩ = some (.int .i64 2))) (by kernel_rfl) (⟨⟨u0, u1, u2, u3, u4⟩, ⟨v0, v1, v2, v3, v4⟩, ⟨m0, m1, m2, m3, m4⟩, ⟨n0, n1, n2, n3, n4⟩⟩) (⟨⟨v0, v1, v2, v3, v4⟩, ⟨m0, m1, m2, m3, m4⟩, ⟨n0, n1, n2, n3, n4⟩⟩) (fun hK => ?_)
            refine wpAnyK_take1 (i := 0) (v := ?_) (by simp only [List.getElem?_toArray, List.getElem?_cons_succ, List.getElem?_cons_zero]; rfl) (by kernel_rfl) (by kernel_rfl) (by kernel_rfl) (by kernel_rfl) (by kernel_rfl) (by kernel_rfl) (by exact fun _ _ _ h => h) (Or.inl ⟨by rfl, ?_⟩) (hK _) ?_
            rotate_left
            · intro w hSw; (try dsimp only at hSw); go_simp; (try with_reducible rfl)
            try simp only [Act.put, List.setIfInBounds_toArray, List.set_cons_zero, List.set_cons_succ]
            refine wpAnyK_take2 (i := 1) (v := ?_) (by simp only [List.getElem?_toArray, List.getElem?_cons_succ, List.getElem?_cons_zero]; rfl) (by kernel_rfl) (by kernel_rfl) (by kernel_rfl) (by kernel_rfl) (by kernel_rfl) (by kernel_rfl) (by exact fun _ _ _ h => h) (Or.inl ⟨by rfl, ?_⟩) (hK _) ?_
            rotate_left
            · intro w hSw; (try dsimp only at hSw); go_simp; (try with_reducible rfl)
            try simp only [Act.put, List.setIfInBounds_toArray, List.set_cons_zero, List.set_cons_succ]
            refine wpAnyK_take1 (i := 2) (v := ?_) (by simp only [List.getElem?_toArray, List.getElem?_cons_succ, List.getElem?_cons_zero]; rfl) (by kernel_rfl) (by kernel_rfl) (by kernel_rfl) (by kernel_rfl) (by kernel_rfl) (by kernel_rfl) (by exact fun _ _ _ h => h) (Or.inl ⟨by rfl, ?_⟩) (hK _) ?_
            rotate_left
            · intro w hSw; (try dsimp only at hSw); go_simp; (try with_reducible rfl)
            try simp only [Act.put, List.setIfInBounds_toArray, List.set_cons_zero, List.set_cons_succ]
            refine wpAnyK_take1 (i := 3) (v := ?_) (by simp only [List.getElem?_toArray, List.getElem?_cons_succ, List.getElem?_cons_zero]; rfl) (by kernel_rfl) (by kernel_rfl) (by kernel_rfl) (by kernel_rfl) (by kernel_rfl) (by kernel_rfl) (by exact fun _ _ _ h => h) (Or.inl ⟨by rfl, ?_⟩) (hK _) ?_
            rotate_left
            · intro w hSw; (try dsimp only at hSw); go_simp; (try with_reducible rfl)
            try simp only [Act.put, List.setIfInBounds_toArray, List.set_cons_zero, List.set_cons_succ]
            refine wpAnyK_take1 (i := 4) (v := ?_) (by simp only [List.getElem?_toArray, List.getElem?_cons_succ, List.getElem?_cons_zero]; rfl) (by kernel_rfl) (by kernel_rfl) (by kernel_rfl) (by kernel_rfl) (by kernel_rfl) (by kernel_rfl) (by exact fun _ _ _ h => h) (Or.inl ⟨by rfl, ?_⟩) (hK _) ?_
            rotate_left
            · intro w hSw; (try dsimp only at hSw); go_simp; (try with_reducible rfl)
            try simp only [Act.put, List.setIfInBounds_toArray, List.set_cons_zero, List.set_cons_succ]
            refine wpAnyK_take1 (i := 5) (v := ?_) (by simp only [List.getElem?_toArray, List.getElem?_cons_succ, List.getElem?_cons_zero]; rfl) (by kernel_rfl) (by kernel_rfl) (by kernel_rfl) (by kernel_rfl) (by kernel_rfl) (by kernel_rfl) (by exact fun _ _ _ h => h) (Or.inl ⟨by rfl, ?_⟩) (hK _) ?_
            rotate_left
            · intro w hSw; (try dsimp only at hSw); go_simp; (try with_reducible rfl)
            try simp only [Act.put, List.setIfInBounds_toArray, List.set_cons_zero, List.set_cons_succ]
            refine wpAnyK_take1 (i := 6) (v := ?_) (by simp only [List.getElem?_toArray, List.getElem?_cons_succ, List.getElem?_cons_zero]; rfl) (by kernel_rfl) (by kernel_rfl) (by kernel_rfl) (by kernel_rfl) (by kernel_rfl) (by kernel_rfl) (by exact fun _ _ _ h => h) (Or.inl ⟨by rfl, ?_⟩) (hK _) ?_
            rotate_left
            · intro w hSw; (try dsimp only at hSw); go_simp; (try with_reducible rfl)
            try simp only [Act.put, List.setIfInBounds_toArray, List.set_cons_zero, List.set_cons_succ]
            refine wpAnyK_take2 (i := 8) (v := ?_) (by simp only [List.getElem?_toArray, List.getElem?_cons_succ, List.getElem?_cons_zero]; rfl) (by kernel_rfl) (by kernel_rfl) (by kernel_rfl) (by kernel_rfl) (by kernel_rfl) (by kernel_rfl) (by exact fun _ _ _ h => h) (Or.inl ⟨by rfl, ?_⟩) (hK _) ?_
            rotate_left
            · intro w hSw; (try dsimp only at hSw); go_simp; (try with_reducible rfl)
            try simp only [Act.put, List.setIfInBounds_toArray, List.set_cons_zero, List.set_cons_succ]
            refine wpAnyK_take2 (i := 9) (v := ?_) (by simp only [List.getElem?_toArray, List.getElem?_cons_succ, List.getElem?_cons_zero]; rfl) (by kernel_rfl) (by kernel_rfl) (by kernel_rfl) (by kernel_rfl) (by kernel_rfl) (by kernel_rfl) (by exact fun _ _ _ h => h) (Or.inl ⟨by rfl, ?_⟩) (hK _) ?_
            rotate_left
            · intro w hSw; (try dsimp only at hSw); go_simp; (try with_reducible rfl)
            try simp only [Act.put, List.setIfInBounds_toArray, List.set_cons_zero, List.set_cons_succ]
            refine wpAnyK_take2 (i := 10) (v := ?_) (by simp only [List.getElem?_toArray, List.getElem?_cons_succ, List.getElem?_cons_zero]; rfl) (by kernel_rfl) (by kernel_rfl) (by kernel_rfl) (by kernel_rfl) (by kernel_rfl) (by kernel_rfl) (by exact fun _ _ _ h => h) (Or.inl ⟨by rfl, ?_⟩) (hK _) ?_
            rotate_left
            · intro w hSw; (try dsimp only at hSw); go_simp; (try with_reducible rfl)
            try simp only [Act.put, List.setIfInBounds_toArray, List.set_cons_zero, List.set_cons_succ]
            refine wpAnyK_take2 (i := 11) (v := ?_) (by simp only [List.getElem?_toArray, List.getElem?_cons_succ, List.getElem?_cons_zero]; rfl) (by kernel_rfl) (by kernel_rfl) (by kernel_rfl) (by kernel_rfl) (by kernel_rfl) (by kernel_rfl) (by exact fun _ _ _ h => h) (Or.inl ⟨by rfl, ?_⟩) (hK _) ?_
            rotate_left
            · intro w hSw; (try dsimp only at hSw); go_simp; (try with_reducible rfl)
            try simp only [Act.put, List.setIfInBounds_toArray, List.set_cons_zero, List.set_cons_succ]
            refine wpAnyK_take2 (i := 12) (v := ?_) (by simp only [List.getElem?_toArray, List.getElem?_cons_succ, List.getElem?_cons_zero]; rfl) (by kernel_rfl) (by kernel_rfl) (by kernel_rfl) (by kernel_rfl) (by kernel_rfl) (by kernel_rfl) (by exact fun _ _ _ h => h) (Or.inl ⟨by rfl, ?_⟩) (hK _) ?_
            rotate_left
            · intro w hSw; (try dsimp only at hSw); go_simp; (try with_reducible rfl)
            try simp only [Act.put, List.setIfInBounds_toArray, List.set_cons_zero, List.set_cons_succ]
            refine wpAnyK_one (i := 7) (by kernel_rfl) (by simp only [List.getElem?_toArray, List.getElem?_cons_succ, List.getElem?_cons_zero]; rfl) (fun kC hkC => ?_)
            go_simp
            refine (take8_any t 0 9 false x a v M _ hXd.r.t.s.m HM.out).mono ?_; rw [HD.out]; unfold handV; dsimp only; rintro e w5 ⟨rfl, hm, hk⟩; have hT5 := hXd.r.t.turnS hm hk; have hx5 := hXd.r.x.keep hk (HA.out.na (Nat.le_refl _)); have hy5 := hXd.r.y.keep hk (HA.out.na (by omega)); have hb5 := hXd.b.keep hk (HA.out.na (by omega)); have m5 := HBm.out _ hT5.s.kp; have n5 := HFm.out _ hT5.s.kp; have hX5 := hx5.at ht HFT.out; have hY5 := hy5.at ht HFT.out; clear hm hk
            (try go_wp2_with fail)
            refine hkC.out _ _ (⟨hX5, hY5, m5, n5⟩) (⟨hY5, m5, n5⟩) (fun hK => ?_)
            clear hkC kC
            try simp only [Act.put, List.setIfInBounds_toArray, List.set_cons_zero, List.set_cons_succ]
            refine wpAnyK_take1 (i := 14) (v := ?_) (by simp only [List.getElem?_toArray, List.getElem?_cons_succ, List.getElem?_cons_zero]; rfl) (by kernel_rfl) (by kernel_rfl) (by kernel_rfl) (by kernel_rfl) (by kernel_rfl) (by kernel_rfl) (by exact fun _ _ _ h => h) (Or.inl ⟨by rfl, ?_⟩) (hK _) ?_
            rotate_left
            · intro w hSw; (try dsimp only at hSw); go_simp; (try with_reducible rfl)
            try simp only [Act.put, List.setIfInBounds_toArray, List.set_cons_zero, List.set_cons_succ]
            refine wpAnyK_one (i := 13) (by kernel_rfl) (by simp only [List.getElem?_toArray, List.getElem?_cons_succ, List.getElem?_cons_zero]; rfl) (fun kC hkC => ?_)
            go_simp
            refine (rtake8_any t 0 9 false x c u M _ hT5.r.m HM.out).mono ?_; rw [HD.out]; unfold handV; dsimp only; rintro e w7 ⟨rfl, hm, hk⟩; have hT7 := hT5.turnR hm hk; have hx7 := hx5.keep hk (HA.out.nc (Nat.le_refl _)); have hy7 := hy5.keep hk (HA.out.nc (by omega)); have hb7 := hb5.keep hk (HA.out.nc (by omega)); have m7 := HBm.out _ hT7.s.kp; have n7 := HFm.out _ hT7.s.kp; have hX7 := hx7.at ht HFT.out; have hY7 := hy7.at ht HFT.out; obtain ⟨F0, F1, F2, F3, F4⟩ := hx7.frees t; obtain ⟨G0, G1, G2, G3, G4⟩ := hy7.frees t; have hl7 := hy7.lt; have hput7 := RnS.put (f := f) ⟨⟨hT7, hx7, hy7⟩, hb7⟩ HA.out t ht ⟨t, 0, s', false, x'⟩; have HP := Lib.hid hput7; have hyS := (hy7.outH (G' := G) (by omega) t ⟨t, 0, s', false, x'⟩).at ht HFT.out; have mS := HBm.out _ (hT7.s.kp.setH (g := G) hWB t ⟨t, 0, s', false, x'⟩); have nS := HFm.out _ (hT7.s.kp.setH (g := G) hWB t ⟨t, 0, s', false, x'⟩); unfold setH at hyS mS nS; dsimp only at hyS mS nS; clear hm hk hput7
            (try go_wp2_with fail)
            refine hkC.out _ _ (⟨hX7, hY7, m7, n7⟩) (⟨hY7, m7, n7⟩) (fun hK => ?_)
            clear hkC kC
            try simp only [Act.put, List.setIfInBounds_toArray, List.set_cons_zero, List.set_cons_succ]
            refine wpAnyK_mid (i := 15) (by kernel_rfl) (by simp only [List.getElem?_toArray, List.getElem?_cons_succ, List.getElem?_cons_zero]; rfl) (by kernel_rfl) (fun kC hkC => ?_)
            go_simp
            refine hkC.out _ _ (⟨hyS, mS, nS⟩) (fun hM => ?_)
            clear hkC kC
            try simp only [Act.put, List.setIfInBounds_toArray, List.set_cons_zero, List.set_cons_succ]
            refine wpAnyK_take2 (i := 16) (v := ?_) (by simp only [List.getElem?_toArray, List.getElem?_cons_succ, List.getElem?_cons_zero]; rfl) (by kernel_rfl) (by kernel_rfl) (by kernel_rfl) (by kernel_rfl) (by kernel_rfl) (by kernel_rfl) (by exact fun _ _ _ h => h) (Or.inl ⟨by rfl, ?_⟩) (ReqK.mid (by kernel_rfl) hM) ?_
            rotate_left
            · intro w hSw; (try dsimp only at hSw); go_simp; (try with_reducible rfl)
            try simp only [Act.put, List.setIfInBounds_toArray, List.set_cons_zero, List.set_cons_succ]
            refine wpAnyK_last (i := 17) (by kernel_rfl) (by simp only [List.getElem?_toArray, List.getElem?_cons_succ, List.getElem?_cons_zero]; rfl) (by kernel_rfl) (by kernel_rfl) (fun kC hkC => ?_)
            go_simp
            refine hkC.out _ _ ?_
            clear hkC kC
            try simp only [Act.put, List.setIfInBounds_toArray, List.set_cons_zero, List.set_cons_succ]
            refine wpAnyK_done (by kernel_rfl) ?_ _
            have hP := HP.out
            unfold setH at hP
            dsimp only at hP
            generalize (((((((((w7.setCell ⟨G, t * 5, none⟩ (.int .i64 t)).setCell ⟨G, t * 5 + 1, none⟩ (.int .i64 0)).setCell ⟨G, t * 5 + 2, none⟩ (.int .i64 s')).setCell ⟨G, t * 5 + 3, none⟩ (.bool false)).setCell ⟨G, t * 5 + 4, none⟩ (.int .i64 x')).setCell ⟨(G + 1), t * 5, none⟩ (.int .i64 t)).setCell ⟨(G + 1), t * 5 + 1, none⟩ (.int .i64 0)).setCell ⟨(G + 1), t * 5 + 2, none⟩ (.int .i64 s')).setCell ⟨(G + 1), t * 5 + 3, none⟩ (.bool false)).setCell ⟨(G + 1), t * 5 + 4, none⟩ (.int .i64 x') = wz at *
            have hft' : hput f t ⟨t, 0, s', false, x'⟩ t = ⟨t, 0, s', false, x'⟩ := by simp [hput]
            generalize hput f t ⟨t, 0, s', false, x'⟩ = f' at *
            have HX' := Lib.hid hP; have HFT' := Lib.hid hft'
            clear hP HP hft' hT5 hT7 hx5 hx7 hy5 hy7 hb5 hb7 m5 m7 n5 n7 hX5 hX7 hY5 hY7 F0 F1 F2 F3 F4 G0 G1 G2 G3 G4 hl7 hyS mS nS hXd hK hM u0 u1 u2 u3 u4 v0 v1 v2 v3 v4 m0 m1 m2 m3 m4 n0 n1 n2 n3 n4 HX2 hxl hyl
            obtain ⟨u0, u1, u2, u3, u4⟩ := HX'.out.r.x.at ht HFT'.out
            obtain ⟨v0, v1, v2, v3, v4⟩ := HX'.out.r.y.at ht HFT'.out
            have hTd := HX'.out.r.t.keep ((Keeps.refl NoS _).drew)
            go_wp2_with fail
            refine wp_region_held_drew (S := (fun w' => (w'.cell? ⟨G, t * 5, none⟩ = some (.int .i64 t) ∧ w'.cell? ⟨G, t * 5 + 1, none⟩ = some (.int .i64 0) ∧ w'.cell? ⟨G, t * 5 + 2, none⟩ = some (.int .i64 s') ∧ w'.cell? ⟨G, t * 5 + 3, none⟩ = some (.bool false) ∧ w'.cell? ⟨G, t * 5 + 4, none⟩ = some (.int .i64 x')) ∧ (w'.cell? ⟨(G + 1), t * 5, none⟩ = some (.int .i64 t) ∧ w'.cell? ⟨(G + 1), t * 5 + 1, none⟩ = some (.int .i64 0) ∧ w'.cell? ⟨(G + 1), t * 5 + 2, none⟩ = some (.int .i64 s') ∧ w'.cell? ⟨(G + 1), t * 5 + 3, none⟩ = some (.bool false) ∧ w'.cell? ⟨(G + 1), t * 5 + 4, none⟩ = some (.int .i64 x')))) (by kernel_rfl) (⟨⟨u0, u1, u2, u3, u4⟩, ⟨v0, v1, v2, v3, v4⟩⟩) (fun hHeld => ?_)
            refine wpAnyH_take (i := 0) (v := ?_) (by simp only [List.getElem?_toArray, List.getElem?_cons_succ, List.getElem?_cons_zero]; rfl) (by kernel_rfl) (by kernel_rfl) (by kernel_rfl) (by exact fun _ _ _ h => h) (Or.inl ⟨by rfl, ?_⟩) hHeld ?_
            rotate_left
            · intro w hSw; (try dsimp only at hSw); go_simp; (try with_reducible rfl)
            try simp only [Act.put, List.setIfInBounds_toArray, List.set_cons_zero, List.set_cons_succ]
            refine wpAnyH_take (i := 1) (v := ?_) (by simp only [List.getElem?_toArray, List.getElem?_cons_succ, List.getElem?_cons_zero]; rfl) (by kernel_rfl) (by kernel_rfl) (by kernel_rfl) (by exact fun _ _ _ h => h) (Or.inl ⟨by rfl, ?_⟩) hHeld ?_
            rotate_left
            · intro w hSw; (try dsimp only at hSw); go_simp; (try with_reducible rfl)
            try simp only [Act.put, List.setIfInBounds_toArray, List.set_cons_zero, List.set_cons_succ]
            refine wpAnyH_take (i := 2) (v := ?_) (by simp only [List.getElem?_toArray, List.getElem?_cons_succ, List.getElem?_cons_zero]; rfl) (by kernel_rfl) (by kernel_rfl) (by kernel_rfl) (by exact fun _ _ _ h => h) (Or.inl ⟨by rfl, ?_⟩) hHeld ?_
            rotate_left
            · intro w hSw; (try dsimp only at hSw); go_simp; (try with_reducible rfl)
            try simp only [Act.put, List.setIfInBounds_toArray, List.set_cons_zero, List.set_cons_succ]
            refine wpAnyH_take (i := 3) (v := ?_) (by simp only [List.getElem?_toArray, List.getElem?_cons_succ, List.getElem?_cons_zero]; rfl) (by kernel_rfl) (by kernel_rfl) (by kernel_rfl) (by exact fun _ _ _ h => h) (Or.inl ⟨by rfl, ?_⟩) hHeld ?_
            rotate_left
            · intro w hSw; (try dsimp only at hSw); go_simp; (try with_reducible rfl)
            try simp only [Act.put, List.setIfInBounds_toArray, List.set_cons_zero, List.set_cons_succ]
            refine wpAnyH_take (i := 4) (v := ?_) (by simp only [List.getElem?_toArray, List.getElem?_cons_succ, List.getElem?_cons_zero]; rfl) (by kernel_rfl) (by kernel_rfl) (by kernel_rfl) (by exact fun _ _ _ h => h) (Or.inl ⟨by rfl, ?_⟩) hHeld ?_
            rotate_left
            · intro w hSw; (try dsimp only at hSw); go_simp; (try with_reducible rfl)
            try simp only [Act.put, List.setIfInBounds_toArray, List.set_cons_zero, List.set_cons_succ]
            refine wpAnyH_take (i := 5) (v := ?_) (by simp only [List.getElem?_toArray, List.getElem?_cons_succ, List.getElem?_cons_zero]; rfl) (by kernel_rfl) (by kernel_rfl) (by kernel_rfl) (by exact fun _ _ _ h => h) (Or.inl ⟨by rfl, ?_⟩) hHeld ?_
            rotate_left
            · intro w hSw; (try dsimp only at hSw); go_simp; (try with_reducible rfl)
            try simp only [Act.put, List.setIfInBounds_toArray, List.set_cons_zero, List.set_cons_succ]
            refine wpAnyH_take (i := 6) (v := ?_) (by simp only [List.getElem?_toArray, List.getElem?_cons_succ, List.getElem?_cons_zero]; rfl) (by kernel_rfl) (by kernel_rfl) (by kernel_rfl) (by exact fun _ _ _ h => h) (Or.inl ⟨by rfl, ?_⟩) hHeld ?_
            rotate_left
            · intro w hSw; (try dsimp only at hSw); go_simp; (try with_reducible rfl)
            try simp only [Act.put, List.setIfInBounds_toArray, List.set_cons_zero, List.set_cons_succ]
            refine wpAnyH_take (i := 7) (v := ?_) (by simp only [List.getElem?_toArray, List.getElem?_cons_succ, List.getElem?_cons_zero]; rfl) (by kernel_rfl) (by kernel_rfl) (by kernel_rfl) (by exact fun _ _ _ h => h) (Or.inl ⟨by rfl, ?_⟩) hHeld ?_
            rotate_left
            · intro w hSw; (try dsimp only at hSw); go_simp; (try with_reducible rfl)
            try simp only [Act.put, List.setIfInBounds_toArray, List.set_cons_zero, List.set_cons_succ]
            refine wpAnyH_take (i := 8) (v := ?_) (by simp only [List.getElem?_toArray, List.getElem?_cons_succ, List.getElem?_cons_zero]; rfl) (by kernel_rfl) (by kernel_rfl) (by kernel_rfl) (by exact fun _ _ _ h => h) (Or.inl ⟨by rfl, ?_⟩) hHeld ?_
            rotate_left
            · intro w hSw; (try dsimp only at hSw); go_simp; (try with_reducible rfl)
            try simp only [Act.put, List.setIfInBounds_toArray, List.set_cons_zero, List.set_cons_succ]
            refine wpAnyH_take (i := 9) (v := ?_) (by simp only [List.getElem?_toArray, List.getElem?_cons_succ, List.getElem?_cons_zero]; rfl) (by kernel_rfl) (by kernel_rfl) (by kernel_rfl) (by exact fun _ _ _ h => h) (Or.inl ⟨by rfl, ?_⟩) hHeld ?_
            rotate_left
            · intro w hSw; (try dsimp only at hSw); go_simp; (try with_reducible rfl)
            try simp only [Act.put, List.setIfInBounds_toArray, List.set_cons_zero, List.set_cons_succ]
            refine wpAnyH_ready (rs := [10]) (by kernel_rfl) (by simp) ?_
            refine AllReadyH.cons (by simp only [List.getElem?_toArray, List.getElem?_cons_succ, List.getElem?_cons_zero]; rfl) (fun kC hkC => ?_) AllReadyH.nil
            go_simp
            refine (like_keep W _ a c v u M' hTd).mono ?_; rintro e w8 ⟨rfl, hT8, hk8⟩; have hX8 := (HX'.out.no ((Keeps.refl NoS _).drew)).no hk8
            (try go_wp2_with fail)
            refine hkC.out _ _ (And.intro (hX8.r.x.at ht HFT'.out) (hX8.r.y.at ht HFT'.out)) (fun hHeld => ?_)
            clear hkC kC
            try simp only [Act.put, List.setIfInBounds_toArray, List.set_cons_zero, List.set_cons_succ]
            refine wpAnyH_take (i := 11) (v := ?_) (by simp only [List.getElem?_toArray, List.getElem?_cons_succ, List.getElem?_cons_zero]; rfl) (by kernel_rfl) (by kernel_rfl) (by kernel_rfl) (by exact fun _ _ _ h => h) (Or.inl ⟨by rfl, ?_⟩) hHeld ?_
            rotate_left
            · intro w hSw; (try dsimp only at hSw); go_simp; (try with_reducible rfl)
            try simp only [Act.put, List.setIfInBounds_toArray, List.set_cons_zero, List.set_cons_succ]
            refine wpAnyH_take (i := 12) (v := ?_) (by simp only [List.getElem?_toArray, List.getElem?_cons_succ, List.getElem?_cons_zero]; rfl) (by kernel_rfl) (by kernel_rfl) (by kernel_rfl) (by exact fun _ _ _ h => h) (Or.inl ⟨by rfl, ?_⟩) hHeld ?_
            rotate_left
            · intro w hSw; (try dsimp only at hSw); go_simp; (try with_reducible rfl)
            try simp only [Act.put, List.setIfInBounds_toArray, List.set_cons_zero, List.set_cons_succ]
            refine wpAnyH_done (by kernel_rfl) ?_ _
            go_wp2_with fail
            go_roundw
            case rel => exact ⟨n + 1, M', f', _, by omega, by go_num, hX8, HI'.out⟩
            case measure => simp [intOf]; omega
          · obtain ⟨M', s', x', hd, hln⟩ := mTakeI_hand (M := M) ht 0 x
            have hoo := HX.out.out HA.out ht false
            have HX2 := Lib.hid hoo
            have HD := Lib.hid hd; have HM := Lib.hid HI.out.1; have HI' := Lib.hid (HI.out.put (t := t) (s := s') (x := x') hln)
            clear hd hln hoo
            obtain ⟨m0, m1, m2, m3, m4⟩ := HBm.out _ HX2.out.r.t.s.kp
            obtain ⟨n0, n1, n2, n3, n4⟩ := HFm.out _ HX2.out.r.t.s.kp
            have cn2 := HCN.out _ HX2.out.r.t.s.kp
            obtain ⟨u0, u1, u2, u3, u4⟩ := HX2.out.r.x.at ht HFT.out
            obtain ⟨v0, v1, v2, v3, v4⟩ := HX2.out.r.y.at ht HFT.out
            have o3 := HX2.out.b.cell ht
            simp only [bput, if_true] at o3
            have hxl := HX2.out.r.x.lt
            have hyl := HX2.out.r.y.lt
            go_upto_region 25 with fail
            obtain ⟨wp, hwp⟩ : ∃ wp, wr.setCell ⟨G + 1 + 1, t, none⟩ (.bool false) = wp := ⟨_, rfl⟩
            rw [hwp] at HX2 m0 m1 m2 m3 m4 n0 n1 n2 n3 n4 u0 u1 u2 u3 u4 v0 v1 v2 v3 v4 hxl hyl ⊢
            clear cn cn2 hz hq HCN y0 y1 y2 y3 y4 o1 o2 hol HX HI o3 hwp
            have hXd := HX2.out.no ((Keeps.refl NoS _).drew)
            refine wp_region_kept_drew 15 (fun w' => (w'.cell? ⟨G, t * 5, none⟩ = some (.int .i64 t) ∧ w'.cell? ⟨G, t * 5 + 1, none⟩ = some (.int .i64 0) ∧ w'.cell? ⟨G, t * 5 + 2, none⟩ = some (.int .i64 0) ∧ w'.cell? ⟨G, t * 5 + 3, none⟩ = some (.bool false) ∧ w'.cell? ⟨G, t * 5 + 4, none⟩ = some (.int .i64 x)) ∧ (w'.cell? ⟨(G + 1), t * 5, none⟩ = some (.int .i64 t) ∧ w'.cell? ⟨(G + 1), t * 5 + 1, none⟩ = some (.int .i64 0) ∧ w'.cell? ⟨(G + 1), t * 5 + 2, none⟩ = some (.int .i64 0) ∧ w'.cell? ⟨(G + 1), t * 5 + 3, none⟩ = some (.bool false) ∧ w'.cell? ⟨(G + 1), t * 5 + 4, none⟩ = some (.int .i64 x)) ∧ (w'.cell? ⟨B, 0, none⟩ = some (.int .i64 2) ∧ w'.cell? ⟨B, 1, none⟩ = some (.int .i64 2) ∧ w'.cell? ⟨B, 2, none⟩ = some (.int .i64 4) ∧ w'.cell? ⟨B, 3, none⟩ = some (.int .i64 0) ∧ w'.cell? ⟨B, 4, none⟩ = some (.int .i64 2)) ∧ (w'.cell? ⟨F, 0, none⟩ = some (.int .i64 2) ∧ w'.cell? ⟨F, 1, none⟩ = some (.int .i64 2) ∧ w'.cell? ⟨F, 2, none⟩ = some (.int .i64 4) ∧ w'.cell? ⟨F, 3, none⟩ = some (.int .i64 0) ∧ w'.cell? ⟨F, 4, none⟩ = some (.int .i64 2))) 17 (fun w' => (w'.cell? ⟨(G + 1), t * 5, none⟩ = some (.int .i64 t) ∧ w'.cell? ⟨(G + 1), t * 5 + 1, none⟩ = some (.int .i64 0) ∧ w'.cell? ⟨(G + 1), t * 5 + 2, none⟩ = some (.int .i64 0) ∧ w'.cell? ⟨(G + 1), t * 5 + 3, none⟩ = some (.bool false) ∧ w'.cell? ⟨(G + 1), t * 5 + 4, none⟩ = some (.int .i64 x)) ∧ (w'.cell? ⟨B, 0, none⟩ = some (.int .i64 2) ∧ w'.cell? ⟨B, 1, none⟩ = some (.int .i64 2) ∧ w'.cell? ⟨B, 2, none⟩ = some (.int .i64 4) ∧ w'.cell? ⟨B, 3, none⟩ = some (.int .i64 0) ∧ w'.cell? ⟨B, 4, none⟩ = some (.int .i64 2)) ∧ (w'.cell? ⟨F, 0, none⟩ = some (.int .i64 2) ∧ w'.cell? ⟨F, 1, none⟩ = some (.int .i64 2) ∧ w'.cell? ⟨F, 2, none⟩ = some (.int .i64 4) ∧ w'.cell? ⟨F, 3, none⟩ = some (.int .i64 0) ∧ w'.cell? ⟨F, 4, none⟩ = some (.int .i64 2))) (by kernel_rfl) (⟨⟨u0, u1, u2, u3, u4⟩, ⟨v0, v1, v2, v3, v4⟩, ⟨m0, m1, m2, m3, m4⟩, ⟨n0, n1, n2, n3, n4⟩⟩) (⟨⟨v0, v1, v2, v3, v4⟩, ⟨m0, m1, m2, m3, m4⟩, ⟨n0, n1, n2, n3, n4⟩⟩) (fun hK => ?_)
            refine wpAnyK_take1 (i := 0) (v := ?_) (by simp only [List.getElem?_toArray, List.getElem?_cons_succ, List.getElem?_cons_zero]; rfl) (by kernel_rfl) (by kernel_rfl) (by kernel_rfl) (by kernel_rfl) (by kernel_rfl) (by kernel_rfl) (by exact fun _ _ _ h => h) (Or.inl ⟨by rfl, ?_⟩) (hK _) ?_
            rotate_left
            · intro w hSw; (try dsimp only at hSw); go_simp; (try with_reducible rfl)
            try simp only [Act.put, List.setIfInBounds_toArray, List.set_cons_zero, List.set_cons_succ]
            refine wpAnyK_take2 (i := 1) (v := ?_) (by simp only [List.getElem?_toArray, List.getElem?_cons_succ, List.getElem?_cons_zero]; rfl) (by kernel_rfl) (by kernel_rfl) (by kernel_rfl) (by kernel_rfl) (by kernel_rfl) (by kernel_rfl) (by exact fun _ _ _ h => h) (Or.inl ⟨by rfl, ?_⟩) (hK _) ?_
            rotate_left
            · intro w hSw; (try dsimp only at hSw); go_simp; (try with_reducible rfl)
            try simp only [Act.put, List.setIfInBounds_toArray, List.set_cons_zero, List.set_cons_succ]
            refine wpAnyK_take1 (i := 2) (v := ?_) (by simp only [List.getElem?_toArray, List.getElem?_cons_succ, List.getElem?_cons_zero]; rfl) (by kernel_rfl) (by kernel_rfl) (by kernel_rfl) (by kernel_rfl) (by kernel_rfl) (by kernel_rfl) (by exact fun _ _ _ h => h) (Or.inl ⟨by rfl, ?_⟩) (hK _) ?_
            rotate_left
            · intro w hSw; (try dsimp only at hSw); go_simp; (try with_reducible rfl)
            try simp only [Act.put, List.setIfInBounds_toArray, List.set_cons_zero, List.set_cons_succ]
            refine wpAnyK_take1 (i := 3) (v := ?_) (by simp only [List.getElem?_toArray, List.getElem?_cons_succ, List.getElem?_cons_zero]; rfl) (by kernel_rfl) (by kernel_rfl) (by kernel_rfl) (by kernel_rfl) (by kernel_rfl) (by kernel_rfl) (by exact fun _ _ _ h => h) (Or.inl ⟨by rfl, ?_⟩) (hK _) ?_
            rotate_left
            · intro w hSw; (try dsimp only at hSw); go_simp; (try with_reducible rfl)
            try simp only [Act.put, List.setIfInBounds_toArray, List.set_cons_zero, List.set_cons_succ]
            refine wpAnyK_take1 (i := 4) (v := ?_) (by simp only [List.getElem?_toArray, List.getElem?_cons_succ, List.getElem?_cons_zero]; rfl) (by kernel_rfl) (by kernel_rfl) (by kernel_rfl) (by kernel_rfl) (by kernel_rfl) (by kernel_rfl) (by exact fun _ _ _ h => h) (Or.inl ⟨by rfl, ?_⟩) (hK _) ?_
            rotate_left
            · intro w hSw; (try dsimp only at hSw); go_simp; (try with_reducible rfl)
            try simp only [Act.put, List.setIfInBounds_toArray, List.set_cons_zero, List.set_cons_succ]
            refine wpAnyK_take1 (i := 5) (v := ?_) (by simp only [List.getElem?_toArray, List.getElem?_cons_succ, List.getElem?_cons_zero]; rfl) (by kernel_rfl) (by kernel_rfl) (by kernel_rfl) (by kernel_rfl) (by kernel_rfl) (by kernel_rfl) (by exact fun _ _ _ h => h) (Or.inl ⟨by rfl, ?_⟩) (hK _) ?_
            rotate_left
            · intro w hSw; (try dsimp only at hSw); go_simp; (try with_reducible rfl)
            try simp only [Act.put, List.setIfInBounds_toArray, List.set_cons_zero, List.set_cons_succ]
            refine wpAnyK_take1 (i := 6) (v := ?_) (by simp only [List.getElem?_toArray, List.getElem?_cons_succ, List.getElem?_cons_zero]; rfl) (by kernel_rfl) (by kernel_rfl) (by kernel_rfl) (by kernel_rfl) (by kernel_rfl) (by kernel_rfl) (by exact fun _ _ _ h => h) (Or.inl ⟨by rfl, ?_⟩) (hK _) ?_
            rotate_left
            · intro w hSw; (try dsimp only at hSw); go_simp; (try with_reducible rfl)
            try simp only [Act.put, List.setIfInBounds_toArray, List.set_cons_zero, List.set_cons_succ]
            refine wpAnyK_take2 (i := 8) (v := ?_) (by simp only [List.getElem?_toArray, List.getElem?_cons_succ, List.getElem?_cons_zero]; rfl) (by kernel_rfl) (by kernel_rfl) (by kernel_rfl) (by kernel_rfl) (by kernel_rfl) (by kernel_rfl) (by exact fun _ _ _ h => h) (Or.inl ⟨by rfl, ?_⟩) (hK _) ?_
            rotate_left
            · intro w hSw; (try dsimp only at hSw); go_simp; (try with_reducible rfl)
            try simp only [Act.put, List.setIfInBounds_toArray, List.set_cons_zero, List.set_cons_succ]
            refine wpAnyK_take2 (i := 9) (v := ?_) (by simp only [List.getElem?_toArray, List.getElem?_cons_succ, List.getElem?_cons_zero]; rfl) (by kernel_rfl) (by kernel_rfl) (by kernel_rfl) (by kernel_rfl) (by kernel_rfl) (by kernel_rfl) (by exact fun _ _ _ h => h) (Or.inl ⟨by rfl, ?_⟩) (hK _) ?_
            rotate_left
            · intro w hSw; (try dsimp only at hSw); go_simp; (try with_reducible rfl)
            try simp only [Act.put, List.setIfInBounds_toArray, List.set_cons_zero, List.set_cons_succ]
            refine wpAnyK_take2 (i := 10) (v := ?_) (by simp only [List.getElem?_toArray, List.getElem?_cons_succ, List.getElem?_cons_zero]; rfl) (by kernel_rfl) (by kernel_rfl) (by kernel_rfl) (by kernel_rfl) (by kernel_rfl) (by kernel_rfl) (by exact fun _ _ _ h => h) (Or.inl ⟨by rfl, ?_⟩) (hK _) ?_
            rotate_left
            · intro w hSw; (try dsimp only at hSw); go_simp; (try with_reducible rfl)
            try simp only [Act.put, List.setIfInBounds_toArray, List.set_cons_zero, List.set_cons_succ]
            refine wpAnyK_take2 (i := 11) (v := ?_) (by simp only [List.getElem?_toArray, List.getElem?_cons_succ, List.getElem?_cons_zero]; rfl) (by kernel_rfl) (by kernel_rfl) (by kernel_rfl) (by kernel_rfl) (by kernel_rfl) (by kernel_rfl) (by exact fun _ _ _ h => h) (Or.inl ⟨by rfl, ?_⟩) (hK _) ?_
            rotate_left
            · intro w hSw; (try dsimp only at hSw); go_simp; (try with_reducible rfl)
            try simp only [Act.put, List.setIfInBounds_toArray, List.set_cons_zero, List.set_cons_succ]
            refine wpAnyK_take2 (i := 12) (v := ?_) (by simp only [List.getElem?_toArray, List.getElem?_cons_succ, List.getElem?_cons_zero]; rfl) (by kernel_rfl) (by kernel_rfl) (by kernel_rfl) (by kernel_rfl) (by kernel_rfl) (by kernel_rfl) (by exact fun _ _ _ h => h) (Or.inl ⟨by rfl, ?_⟩) (hK _) ?_
            rotate_left
            · intro w hSw; (try dsimp only at hSw); go_simp; (try with_reducible rfl)
            try simp only [Act.put, List.setIfInBounds_toArray, List.set_cons_zero, List.set_cons_succ]
            refine wpAnyK_one (i := 7) (by kernel_rfl) (by simp only [List.getElem?_toArray, List.getElem?_cons_succ, List.getElem?_cons_zero]; rfl) (fun kC hkC => ?_)
            go_simp
            refine (take8_any t 0 0 false x a v M _ hXd.r.t.s.m HM.out).mono ?_; rw [HD.out]; unfold handV; dsimp only; rintro e w5 ⟨rfl, hm, hk⟩; have hT5 := hXd.r.t.turnS hm hk; have hx5 := hXd.r.x.keep hk (HA.out.na (Nat.le_refl _)); have hy5 := hXd.r.y.keep hk (HA.out.na (by omega)); have hb5 := hXd.b.keep hk (HA.out.na (by omega)); have m5 := HBm.out _ hT5.s.kp; have n5 := HFm.out _ hT5.s.kp; have hX5 := hx5.at ht HFT.out; have hY5 := hy5.at ht HFT.out; clear hm hk
            (try go_wp2_with fail)
            refine hkC.out _ _ (⟨hX5, hY5, m5, n5⟩) (⟨hY5, m5, n5⟩) (fun hK => ?_)
            clear hkC kC
            try simp only [Act.put, List.setIfInBounds_toArray, List.set_cons_zero, List.set_cons_succ]
            refine wpAnyK_take1 (i := 14) (v := ?_) (by simp only [List.getElem?_toArray, List.getElem?_cons_succ, List.getElem?_cons_zero]; rfl) (by kernel_rfl) (by kernel_rfl) (by kernel_rfl) (by kernel_rfl) (by kernel_rfl) (by kernel_rfl) (by exact fun _ _ _ h => h) (Or.inl ⟨by rfl, ?_⟩) (hK _) ?_
            rotate_left
            · intro w hSw; (try dsimp only at hSw); go_simp; (try with_reducible rfl)
            try simp only [Act.put, List.setIfInBounds_toArray, List.set_cons_zero, List.set_cons_succ]
            refine wpAnyK_one (i := 13) (by kernel_rfl) (by simp only [List.getElem?_toArray, List.getElem?_cons_succ, List.getElem?_cons_zero]; rfl) (fun kC hkC => ?_)
            go_simp
            refine (rtake8_any t 0 0 false x c u M _ hT5.r.m HM.out).mono ?_; rw [HD.out]; unfold handV; dsimp only; rintro e w7 ⟨rfl, hm, hk⟩; have hT7 := hT5.turnR hm hk; have hx7 := hx5.keep hk (HA.out.nc (Nat.le_refl _)); have hy7 := hy5.keep hk (HA.out.nc (by omega)); have hb7 := hb5.keep hk (HA.out.nc (by omega)); have m7 := HBm.out _ hT7.s.kp; have n7 := HFm.out _ hT7.s.kp; have hX7 := hx7.at ht HFT.out; have hY7 := hy7.at ht HFT.out; obtain ⟨F0, F1, F2, F3, F4⟩ := hx7.frees t; obtain ⟨G0, G1, G2, G3, G4⟩ := hy7.frees t; have hl7 := hy7.lt; have hput7 := RnS.put (f := f) ⟨⟨hT7, hx7, hy7⟩, hb7⟩ HA.out t ht ⟨t, 0, s', false, x'⟩; have HP := Lib.hid hput7; have hyS := (hy7.outH (G' := G) (by omega) t ⟨t, 0, s', false, x'⟩).at ht HFT.out; have mS := HBm.out _ (hT7.s.kp.setH (g := G) hWB t ⟨t, 0, s', false, x'⟩); have nS := HFm.out _ (hT7.s.kp.setH (g := G) hWB t ⟨t, 0, s', false, x'⟩); unfold setH at hyS mS nS; dsimp only at hyS mS nS; clear hm hk hput7
            (try go_wp2_with fail)
            refine hkC.out _ _ (⟨hX7, hY7, m7, n7⟩) (⟨hY7, m7, n7⟩) (fun hK => ?_)
            clear hkC kC
            try simp only [Act.put, List.setIfInBounds_toArray, List.set_cons_zero, List.set_cons_succ]
            refine wpAnyK_mid (i := 15) (by kernel_rfl) (by simp only [List.getElem?_toArray, List.getElem?_cons_succ, List.getElem?_cons_zero]; rfl) (by kernel_rfl) (fun kC hkC => ?_)
            go_simp
            refine hkC.out _ _ (⟨hyS, mS, nS⟩) (fun hM => ?_)
            clear hkC kC
            try simp only [Act.put, List.setIfInBounds_toArray, List.set_cons_zero, List.set_cons_succ]
            refine wpAnyK_take2 (i := 16) (v := ?_) (by simp only [List.getElem?_toArray, List.getElem?_cons_succ, List.getElem?_cons_zero]; rfl) (by kernel_rfl) (by kernel_rfl) (by kernel_rfl) (by kernel_rfl) (by kernel_rfl) (by kernel_rfl) (by exact fun _ _ _ h => h) (Or.inl ⟨by rfl, ?_⟩) (ReqK.mid (by kernel_rfl) hM) ?_
            rotate_left
            · intro w hSw; (try dsimp only at hSw); go_simp; (try with_reducible rfl)
            try simp only [Act.put, List.setIfInBounds_toArray, List.set_cons_zero, List.set_cons_succ]
            refine wpAnyK_last (i := 17) (by kernel_rfl) (by simp only [List.getElem?_toArray, List.getElem?_cons_succ, List.getElem?_cons_zero]; rfl) (by kernel_rfl) (by kernel_rfl) (fun kC hkC => ?_)
            go_simp
            refine hkC.out _ _ ?_
            clear hkC kC
            try simp only [Act.put, List.setIfInBounds_toArray, List.set_cons_zero, List.set_cons_succ]
            refine wpAnyK_done (by kernel_rfl) ?_ _
            have hP := HP.out
            unfold setH at hP
            dsimp only at hP
            generalize (((((((((w7.setCell ⟨G, t * 5, none⟩ (.int .i64 t)).setCell ⟨G, t * 5 + 1, none⟩ (.int .i64 0)).setCell ⟨G, t * 5 + 2, none⟩ (.int .i64 s')).setCell ⟨G, t * 5 + 3, none⟩ (.bool false)).setCell ⟨G, t * 5 + 4, none⟩ (.int .i64 x')).setCell ⟨(G + 1), t * 5, none⟩ (.int .i64 t)).setCell ⟨(G + 1), t * 5 + 1, none⟩ (.int .i64 0)).setCell ⟨(G + 1), t * 5 + 2, none⟩ (.int .i64 s')).setCell ⟨(G + 1), t * 5 + 3, none⟩ (.bool false)).setCell ⟨(G + 1), t * 5 + 4, none⟩ (.int .i64 x') = wz at *
            have hft' : hput f t ⟨t, 0, s', false, x'⟩ t = ⟨t, 0, s', false, x'⟩ := by simp [hput]
            generalize hput f t ⟨t, 0, s', false, x'⟩ = f' at *
            have HX' := Lib.hid hP; have HFT' := Lib.hid hft'
            clear hP HP hft' hT5 hT7 hx5 hx7 hy5 hy7 hb5 hb7 m5 m7 n5 n7 hX5 hX7 hY5 hY7 F0 F1 F2 F3 F4 G0 G1 G2 G3 G4 hl7 hyS mS nS hXd hK hM u0 u1 u2 u3 u4 v0 v1 v2 v3 v4 m0 m1 m2 m3 m4 n0 n1 n2 n3 n4 HX2 hxl hyl
            obtain ⟨u0, u1, u2, u3, u4⟩ := HX'.out.r.x.at ht HFT'.out
            obtain ⟨v0, v1, v2, v3, v4⟩ := HX'.out.r.y.at ht HFT'.out
            have hTd := HX'.out.r.t.keep ((Keeps.refl NoS _).drew)
            go_wp2_with fail
            refine wp_region_held_drew (S := (fun w' => (w'.cell? ⟨G, t * 5, none⟩ = some (.int .i64 t) ∧ w'.cell? ⟨G, t * 5 + 1, none⟩ = some (.int .i64 0) ∧ w'.cell? ⟨G, t * 5 + 2, none⟩ = some (.int .i64 s') ∧ w'.cell? ⟨G, t * 5 + 3, none⟩ = some (.bool false) ∧ w'.cell? ⟨G, t * 5 + 4, none⟩ = some (.int .i64 x')) ∧ (w'.cell? ⟨(G + 1), t * 5, none⟩ = some (.int .i64 t) ∧ w'.cell? ⟨(G + 1), t * 5 + 1, none⟩ = some (.int .i64 0) ∧ w'.cell? ⟨(G + 1), t * 5 + 2, none⟩ = some (.int .i64 s') ∧ w'.cell? ⟨(G + 1), t * 5 + 3, none⟩ = some (.bool false) ∧ w'.cell? ⟨(G + 1), t * 5 + 4, none⟩ = some (.int .i64 x')))) (by kernel_rfl) (⟨⟨u0, u1, u2, u3, u4⟩, ⟨v0, v1, v2, v3, v4⟩⟩) (fun hHeld => ?_)
            refine wpAnyH_take (i := 0) (v := ?_) (by simp only [List.getElem?_toArray, List.getElem?_cons_succ, List.getElem?_cons_zero]; rfl) (by kernel_rfl) (by kernel_rfl) (by kernel_rfl) (by exact fun _ _ _ h => h) (Or.inl ⟨by rfl, ?_⟩) hHeld ?_
            rotate_left
            · intro w hSw; (try dsimp only at hSw); go_simp; (try with_reducible rfl)
            try simp only [Act.put, List.setIfInBounds_toArray, List.set_cons_zero, List.set_cons_succ]
            refine wpAnyH_take (i := 1) (v := ?_) (by simp only [List.getElem?_toArray, List.getElem?_cons_succ, List.getElem?_cons_zero]; rfl) (by kernel_rfl) (by kernel_rfl) (by kernel_rfl) (by exact fun _ _ _ h => h) (Or.inl ⟨by rfl, ?_⟩) hHeld ?_
            rotate_left
            · intro w hSw; (try dsimp only at hSw); go_simp; (try with_reducible rfl)
            try simp only [Act.put, List.setIfInBounds_toArray, List.set_cons_zero, List.set_cons_succ]
            refine wpAnyH_take (i := 2) (v := ?_) (by simp only [List.getElem?_toArray, List.getElem?_cons_succ, List.getElem?_cons_zero]; rfl) (by kernel_rfl) (by kernel_rfl) (by kernel_rfl) (by exact fun _ _ _ h => h) (Or.inl ⟨by rfl, ?_⟩) hHeld ?_
            rotate_left
            · intro w hSw; (try dsimp only at hSw); go_simp; (try with_reducible rfl)
            try simp only [Act.put, List.setIfInBounds_toArray, List.set_cons_zero, List.set_cons_succ]
            refine wpAnyH_take (i := 3) (v := ?_) (by simp only [List.getElem?_toArray, List.getElem?_cons_succ, List.getElem?_cons_zero]; rfl) (by kernel_rfl) (by kernel_rfl) (by kernel_rfl) (by exact fun _ _ _ h => h) (Or.inl ⟨by rfl, ?_⟩) hHeld ?_
            rotate_left
            · intro w hSw; (try dsimp only at hSw); go_simp; (try with_reducible rfl)
            try simp only [Act.put, List.setIfInBounds_toArray, List.set_cons_zero, List.set_cons_succ]
            refine wpAnyH_take (i := 4) (v := ?_) (by simp only [List.getElem?_toArray, List.getElem?_cons_succ, List.getElem?_cons_zero]; rfl) (by kernel_rfl) (by kernel_rfl) (by kernel_rfl) (by exact fun _ _ _ h => h) (Or.inl ⟨by rfl, ?_⟩) hHeld ?_
            rotate_left
            · intro w hSw; (try dsimp only at hSw); go_simp; (try with_reducible rfl)
            try simp only [Act.put, List.setIfInBounds_toArray, List.set_cons_zero, List.set_cons_succ]
            refine wpAnyH_take (i := 5) (v := ?_) (by simp only [List.getElem?_toArray, List.getElem?_cons_succ, List.getElem?_cons_zero]; rfl) (by kernel_rfl) (by kernel_rfl) (by kernel_rfl) (by exact fun _ _ _ h => h) (Or.inl ⟨by rfl, ?_⟩) hHeld ?_
            rotate_left
            · intro w hSw; (try dsimp only at hSw); go_simp; (try with_reducible rfl)
            try simp only [Act.put, List.setIfInBounds_toArray, List.set_cons_zero, List.set_cons_succ]
            refine wpAnyH_take (i := 6) (v := ?_) (by simp only [List.getElem?_toArray, List.getElem?_cons_succ, List.getElem?_cons_zero]; rfl) (by kernel_rfl) (by kernel_rfl) (by kernel_rfl) (by exact fun _ _ _ h => h) (Or.inl ⟨by rfl, ?_⟩) hHeld ?_
            rotate_left
            · intro w hSw; (try dsimp only at hSw); go_simp; (try with_reducible rfl)
            try simp only [Act.put, List.setIfInBounds_toArray, List.set_cons_zero, List.set_cons_succ]
            refine wpAnyH_take (i := 7) (v := ?_) (by simp only [List.getElem?_toArray, List.getElem?_cons_succ, List.getElem?_cons_zero]; rfl) (by kernel_rfl) (by kernel_rfl) (by kernel_rfl) (by exact fun _ _ _ h => h) (Or.inl ⟨by rfl, ?_⟩) hHeld ?_
            rotate_left
            · intro w hSw; (try dsimp only at hSw); go_simp; (try with_reducible rfl)
            try simp only [Act.put, List.setIfInBounds_toArray, List.set_cons_zero, List.set_cons_succ]
            refine wpAnyH_take (i := 8) (v := ?_) (by simp only [List.getElem?_toArray, List.getElem?_cons_succ, List.getElem?_cons_zero]; rfl) (by kernel_rfl) (by kernel_rfl) (by kernel_rfl) (by exact fun _ _ _ h => h) (Or.inl ⟨by rfl, ?_⟩) hHeld ?_
            rotate_left
            · intro w hSw; (try dsimp only at hSw); go_simp; (try with_reducible rfl)
            try simp only [Act.put, List.setIfInBounds_toArray, List.set_cons_zero, List.set_cons_succ]
            refine wpAnyH_take (i := 9) (v := ?_) (by simp only [List.getElem?_toArray, List.getElem?_cons_succ, List.getElem?_cons_zero]; rfl) (by kernel_rfl) (by kernel_rfl) (by kernel_rfl) (by exact fun _ _ _ h => h) (Or.inl ⟨by rfl, ?_⟩) hHeld ?_
            rotate_left
            · intro w hSw; (try dsimp only at hSw); go_simp; (try with_reducible rfl)
            try simp only [Act.put, List.setIfInBounds_toArray, List.set_cons_zero, List.set_cons_succ]
            refine wpAnyH_ready (rs := [10]) (by kernel_rfl) (by simp) ?_
            refine AllReadyH.cons (by simp only [List.getElem?_toArray, List.getElem?_cons_succ, List.getElem?_cons_zero]; rfl) (fun kC hkC => ?_) AllReadyH.nil
            go_simp
            refine (like_keep W _ a c v u M' hTd).mono ?_; rintro e w8 ⟨rfl, hT8, hk8⟩; have hX8 := (HX'.out.no ((Keeps.refl NoS _).drew)).no hk8
            (try go_wp2_with fail)
            refine hkC.out _ _ (And.intro (hX8.r.x.at ht HFT'.out) (hX8.r.y.at ht HFT'.out)) (fun hHeld => ?_)
            clear hkC kC
            try simp only [Act.put, List.setIfInBounds_toArray, List.set_cons_zero, List.set_cons_succ]
            refine wpAnyH_take (i := 11) (v := ?_) (by simp only [List.getElem?_toArray, List.getElem?_cons_succ, List.getElem?_cons_zero]; rfl) (by kernel_rfl) (by kernel_rfl) (by kernel_rfl) (by exact fun _ _ _ h => h) (Or.inl ⟨by rfl, ?_⟩) hHeld ?_
            rotate_left
            · intro w hSw; (try dsimp only at hSw); go_simp; (try with_reducible rfl)
            try simp only [Act.put, List.setIfInBounds_toArray, List.set_cons_zero, List.set_cons_succ]
            refine wpAnyH_take (i := 12) (v := ?_) (by simp only [List.getElem?_toArray, List.getElem?_cons_succ, List.getElem?_cons_zero]; rfl) (by kernel_rfl) (by kernel_rfl) (by kernel_rfl) (by exact fun _ _ _ h => h) (Or.inl ⟨by rfl, ?_⟩) hHeld ?_
            rotate_left
            · intro w hSw; (try dsimp only at hSw); go_simp; (try with_reducible rfl)
            try simp only [Act.put, List.setIfInBounds_toArray, List.set_cons_zero, List.set_cons_succ]
            refine wpAnyH_done (by kernel_rfl) ?_ _
            go_wp2_with fail
            go_roundw
            case rel => exact ⟨n + 1, M', f', _, by omega, by go_num, hX8, HI'.out⟩
            case measure => simp [intOf]; omega
          · obtain ⟨M', s', x', hd, hln⟩ := mDropI_hand (M := M) ht s x
            have HX2 := HX
            have HD := Lib.hid hd; have HM := Lib.hid HI.out.1; have HI' := Lib.hid (HI.out.put (t := t) (s := s') (x := x') hln)
            clear hd hln
            obtain ⟨m0, m1, m2, m3, m4⟩ := HBm.out _ HX2.out.r.t.s.kp
            obtain ⟨n0, n1, n2, n3, n4⟩ := HFm.out _ HX2.out.r.t.s.kp
            have cn2 := HCN.out _ HX2.out.r.t.s.kp
            obtain ⟨u0, u1, u2, u3, u4⟩ := HX2.out.r.x.at ht HFT.out
            obtain ⟨v0, v1, v2, v3, v4⟩ := HX2.out.r.y.at ht HFT.out
            have hxl := HX2.out.r.x.lt
            have hyl := HX2.out.r.y.lt
            go_upto_region 24 with fail
            clear cn cn2 hz hq HCN y0 y1 y2 y3 y4 o1 o2 hol HX HI
            have hXd := HX2.out.no ((Keeps.refl NoS _).drew)
            refine wp_region_kept_drew 15 (fun w' => (w'.cell? ⟨G, t * 5, none⟩ = some (.int .i64 t) ∧ w'.cell? ⟨G, t * 5 + 1, none⟩ = some (.int .i64 0) ∧ w'.cell? ⟨G, t * 5 + 2, none⟩ = some (.int .i64 s) ∧ w'.cell? ⟨G, t * 5 + 3, none⟩ = some (.bool false) ∧ w'.cell? ⟨G, t * 5 + 4, none⟩ = some (.int .i64 x)) ∧ (w'.cell? ⟨(G + 1), t * 5, none⟩ = some (.int .i64 t) ∧ w'.cell? ⟨(G + 1), t * 5 + 1, none⟩ = some (.int .i64 0) ∧ w'.cell? ⟨(G + 1), t * 5 + 2, none⟩ = some (.int .i64 s) ∧ w'.cell? ⟨(G + 1), t * 5 + 3, none⟩ = some (.bool false) ∧ w'.cell? ⟨(G + 1), t * 5 + 4, none⟩ = some (.int .i64 x)) ∧ (w'.cell? ⟨B, 0, none⟩ = some (.int .i64 2) ∧ w'.cell? ⟨B, 1, none⟩ = some (.int .i64 2) ∧ w'.cell? ⟨B, 2, none⟩ = some (.int .i64 4) ∧ w'.cell? ⟨B, 3, none⟩ = some (.int .i64 0) ∧ w'.cell? ⟨B, 4, none⟩ = some (.int .i64 2)) ∧ (w'.cell? ⟨F, 0, none⟩ = some (.int .i64 2) ∧ w'.cell? ⟨F, 1, none⟩ = some (.int .i64 2) ∧ w'.cell? ⟨F, 2, none⟩ = some (.int .i64 4) ∧ w'.cell? ⟨F, 3, none⟩ = some (.int .i64 0) ∧ w'.cell? ⟨F, 4, none⟩ = some (.int .i64 2))) 17 (fun w' => (w'.cell? ⟨(G + 1), t * 5, none⟩ = some (.int .i64 t) ∧ w'.cell? ⟨(G + 1), t * 5 + 1, none⟩ = some (.int .i64 0) ∧ w'.cell? ⟨(G + 1), t * 5 + 2, none⟩ = some (.int .i64 s) ∧ w'.cell? ⟨(G + 1), t * 5 + 3, none⟩ = some (.bool false) ∧ w'.cell? ⟨(G + 1), t * 5 + 4, none⟩ = some (.int .i64 x)) ∧ (w'.cell? ⟨B, 0, none⟩ = some (.int .i64 2) ∧ w'.cell? ⟨B, 1, none⟩ = some (.int .i64 2) ∧ w'.cell? ⟨B, 2, none⟩ = some (.int .i64 4) ∧ w'.cell? ⟨B, 3, none⟩ = some (.int .i64 0) ∧ w'.cell? ⟨B, 4, none⟩ = some (.int .i64 2)) ∧ (w'.cell? ⟨F, 0, none⟩ = some (.int .i64 2) ∧ w'.cell? ⟨F, 1, none⟩ = some (.int .i64 2) ∧ w'.cell? ⟨F, 2, none⟩ = some (.int .i64 4) ∧ w'.cell? ⟨F, 3, none⟩ = some (.int .i64 0) ∧ w'.cell? ⟨F, 4, none⟩ = some (.int .i64 2))) (by kernel_rfl) (⟨⟨u0, u1, u2, u3, u4⟩, ⟨v0, v1, v2, v3, v4⟩, ⟨m0, m1, m2, m3, m4⟩, ⟨n0, n1, n2, n3, n4⟩⟩) (⟨⟨v0, v1, v2, v3, v4⟩, ⟨m0, m1, m2, m3, m4⟩, ⟨n0, n1, n2, n3, n4⟩⟩) (fun hK => ?_)
            refine wpAnyK_take1 (i := 0) (v := ?_) (by simp only [List.getElem?_toArray, List.getElem?_cons_succ, List.getElem?_cons_zero]; rfl) (by kernel_rfl) (by kernel_rfl) (by kernel_rfl) (by kernel_rfl) (by kernel_rfl) (by kernel_rfl) (by exact fun _ _ _ h => h) (Or.inl ⟨by rfl, ?_⟩) (hK _) ?_
            rotate_left
            · intro w hSw; (try dsimp only at hSw); go_simp; (try with_reducible rfl)
            try simp only [Act.put, List.setIfInBounds_toArray, List.set_cons_zero, List.set_cons_succ]
            refine wpAnyK_take2 (i := 1) (v := ?_) (by simp only [List.getElem?_toArray, List.getElem?_cons_succ, List.getElem?_cons_zero]; rfl) (by kernel_rfl) (by kernel_rfl) (by kernel_rfl) (by kernel_rfl) (by kernel_rfl) (by kernel_rfl) (by exact fun _ _ _ h => h) (Or.inl ⟨by rfl, ?_⟩) (hK _) ?_
            rotate_left
            · intro w hSw; (try dsimp only at hSw); go_simp; (try with_reducible rfl)
            try simp only [Act.put, List.setIfInBounds_toArray, List.set_cons_zero, List.set_cons_succ]
            refine wpAnyK_take1 (i := 2) (v := ?_) (by simp only [List.getElem?_toArray, List.getElem?_cons_succ, List.getElem?_cons_zero]; rfl) (by kernel_rfl) (by kernel_rfl) (by kernel_rfl) (by kernel_rfl) (by kernel_rfl) (by kernel_rfl) (by exact fun _ _ _ h => h) (Or.inl ⟨by rfl, ?_⟩) (hK _) ?_
            rotate_left
            · intro w hSw; (try dsimp only at hSw); go_simp; (try with_reducible rfl)
            try simp only [Act.put, List.setIfInBounds_toArray, List.set_cons_zero, List.set_cons_succ]
            refine wpAnyK_take1 (i := 3) (v := ?_) (by simp only [List.getElem?_toArray, List.getElem?_cons_succ, List.getElem?_cons_zero]; rfl) (by kernel_rfl) (by kernel_rfl) (by kernel_rfl) (by kernel_rfl) (by kernel_rfl) (by kernel_rfl) (by exact fun _ _ _ h => h) (Or.inl ⟨by rfl, ?_⟩) (hK _) ?_
            rotate_left
            · intro w hSw; (try dsimp only at hSw); go_simp; (try with_reducible rfl)
            try simp only [Act.put, List.setIfInBounds_toArray, List.set_cons_zero, List.set_cons_succ]
            refine wpAnyK_take1 (i := 4) (v := ?_) (by simp only [List.getElem?_toArray, List.getElem?_cons_succ, List.getElem?_cons_zero]; rfl) (by kernel_rfl) (by kernel_rfl) (by kernel_rfl) (by kernel_rfl) (by kernel_rfl) (by kernel_rfl) (by exact fun _ _ _ h => h) (Or.inl ⟨by rfl, ?_⟩) (hK _) ?_
            rotate_left
            · intro w hSw; (try dsimp only at hSw); go_simp; (try with_reducible rfl)
            try simp only [Act.put, List.setIfInBounds_toArray, List.set_cons_zero, List.set_cons_succ]
            refine wpAnyK_take1 (i := 5) (v := ?_) (by simp only [List.getElem?_toArray, List.getElem?_cons_succ, List.getElem?_cons_zero]; rfl) (by kernel_rfl) (by kernel_rfl) (by kernel_rfl) (by kernel_rfl) (by kernel_rfl) (by kernel_rfl) (by exact fun _ _ _ h => h) (Or.inl ⟨by rfl, ?_⟩) (hK _) ?_
            rotate_left
            · intro w hSw; (try dsimp only at hSw); go_simp; (try with_reducible rfl)
            try simp only [Act.put, List.setIfInBounds_toArray, List.set_cons_zero, List.set_cons_succ]
            refine wpAnyK_take1 (i := 6) (v := ?_) (by simp only [List.getElem?_toArray, List.getElem?_cons_succ, List.getElem?_cons_zero]; rfl) (by kernel_rfl) (by kernel_rfl) (by kernel_rfl) (by kernel_rfl) (by kernel_rfl) (by kernel_rfl) (by exact fun _ _ _ h => h) (Or.inl ⟨by rfl, ?_⟩) (hK _) ?_
            rotate_left
            · intro w hSw; (try dsimp only at hSw); go_simp; (try with_reducible rfl)
            try simp only [Act.put, List.setIfInBounds_toArray, List.set_cons_zero, List.set_cons_succ]
            refine wpAnyK_take2 (i := 8) (v := ?_) (by simp only [List.getElem?_toArray, List.getElem?_cons_succ, List.getElem?_cons_zero]; rfl) (by kernel_rfl) (by kernel_rfl) (by kernel_rfl) (by kernel_rfl) (by kernel_rfl) (by kernel_rfl) (by exact fun _ _ _ h => h) (Or.inl ⟨by rfl, ?_⟩) (hK _) ?_
            rotate_left
            · intro w hSw; (try dsimp only at hSw); go_simp; (try with_reducible rfl)
            try simp only [Act.put, List.setIfInBounds_toArray, List.set_cons_zero, List.set_cons_succ]
            refine wpAnyK_take2 (i := 9) (v := ?_) (by simp only [List.getElem?_toArray, List.getElem?_cons_succ, List.getElem?_cons_zero]; rfl) (by kernel_rfl) (by kernel_rfl) (by kernel_rfl) (by kernel_rfl) (by kernel_rfl) (by kernel_rfl) (by exact fun _ _ _ h => h) (Or.inl ⟨by rfl, ?_⟩) (hK _) ?_
            rotate_left
            · intro w hSw; (try dsimp only at hSw); go_simp; (try with_reducible rfl)
            try simp only [Act.put, List.setIfInBounds_toArray, List.set_cons_zero, List.set_cons_succ]
            refine wpAnyK_take2 (i := 10) (v := ?_) (by simp only [List.getElem?_toArray, List.getElem?_cons_succ, List.getElem?_cons_zero]; rfl) (by kernel_rfl) (by kernel_rfl) (by kernel_rfl) (by kernel_rfl) (by kernel_rfl) (by kernel_rfl) (by exact fun _ _ _ h => h) (Or.inl ⟨by rfl, ?_⟩) (hK _) ?_
            rotate_left
            · intro w hSw; (try dsimp only at hSw); go_simp; (try with_reducible rfl)
            try simp only [Act.put, List.setIfInBounds_toArray, List.set_cons_zero, List.set_cons_succ]
            refine wpAnyK_take2 (i := 11) (v := ?_) (by simp only [List.getElem?_toArray, List.getElem?_cons_succ, List.getElem?_cons_zero]; rfl) (by kernel_rfl) (by kernel_rfl) (by kernel_rfl) (by kernel_rfl) (by kernel_rfl) (by kernel_rfl) (by exact fun _ _ _ h => h) (Or.inl ⟨by rfl, ?_⟩) (hK _) ?_
            rotate_left
            · intro w hSw; (try dsimp only at hSw); go_simp; (try with_reducible rfl)
            try simp only [Act.put, List.setIfInBounds_toArray, List.set_cons_zero, List.set_cons_succ]
            refine wpAnyK_take2 (i := 12) (v := ?_) (by simp only [List.getElem?_toArray, List.getElem?_cons_succ, List.getElem?_cons_zero]; rfl) (by kernel_rfl) (by kernel_rfl) (by kernel_rfl) (by kernel_rfl) (by kernel_rfl) (by kernel_rfl) (by exact fun _ _ _ h => h) (Or.inl ⟨by rfl, ?_⟩) (hK _) ?_
            rotate_left
            · intro w hSw; (try dsimp only at hSw); go_simp; (try with_reducible rfl)
            try simp only [Act.put, List.setIfInBounds_toArray, List.set_cons_zero, List.set_cons_succ]
            refine wpAnyK_one (i := 7) (by kernel_rfl) (by simp only [List.getElem?_toArray, List.getElem?_cons_succ, List.getElem?_cons_zero]; rfl) (fun kC hkC => ?_)
            go_simp
            refine (drop8_any t 0 s false x a v M _ hXd.r.t.s.m HM.out).mono ?_; rw [HD.out]; unfold handV; dsimp only; rintro e w5 ⟨rfl, hm, hk⟩; have hT5 := hXd.r.t.turnS hm hk; have hx5 := hXd.r.x.keep hk (HA.out.na (Nat.le_refl _)); have hy5 := hXd.r.y.keep hk (HA.out.na (by omega)); have hb5 := hXd.b.keep hk (HA.out.na (by omega)); have m5 := HBm.out _ hT5.s.kp; have n5 := HFm.out _ hT5.s.kp; have hX5 := hx5.at ht HFT.out; have hY5 := hy5.at ht HFT.out; clear hm hk
            (try go_wp2_with fail)
            refine hkC.out _ _ (⟨hX5, hY5, m5, n5⟩) (⟨hY5, m5, n5⟩) (fun hK => ?_)
            clear hkC kC
            try simp only [Act.put, List.setIfInBounds_toArray, List.set_cons_zero, List.set_cons_succ]
            refine wpAnyK_take1 (i := 14) (v := ?_) (by simp only [List.getElem?_toArray, List.getElem?_cons_succ, List.getElem?_cons_zero]; rfl) (by kernel_rfl) (by kernel_rfl) (by kernel_rfl) (by kernel_rfl) (by kernel_rfl) (by kernel_rfl) (by exact fun _ _ _ h => h) (Or.inl ⟨by rfl, ?_⟩) (hK _) ?_
            rotate_left
            · intro w hSw; (try dsimp only at hSw); go_simp; (try with_reducible rfl)
            try simp only [Act.put, List.setIfInBounds_toArray, List.set_cons_zero, List.set_cons_succ]
            refine wpAnyK_one (i := 13) (by kernel_rfl) (by simp only [List.getElem?_toArray, List.getElem?_cons_succ, List.getElem?_cons_zero]; rfl) (fun kC hkC => ?_)
            go_simp
            refine (rdrop8_any t 0 s false x c u M _ hT5.r.m HM.out).mono ?_; rw [HD.out]; unfold handV; dsimp only; rintro e w7 ⟨rfl, hm, hk⟩; have hT7 := hT5.turnR hm hk; have hx7 := hx5.keep hk (HA.out.nc (Nat.le_refl _)); have hy7 := hy5.keep hk (HA.out.nc (by omega)); have hb7 := hb5.keep hk (HA.out.nc (by omega)); have m7 := HBm.out _ hT7.s.kp; have n7 := HFm.out _ hT7.s.kp; have hX7 := hx7.at ht HFT.out; have hY7 := hy7.at ht HFT.out; obtain ⟨F0, F1, F2, F3, F4⟩ := hx7.frees t; obtain ⟨G0, G1, G2, G3, G4⟩ := hy7.frees t; have hl7 := hy7.lt; have hput7 := RnS.put (f := f) ⟨⟨hT7, hx7, hy7⟩, hb7⟩ HA.out t ht ⟨t, 0, s', false, x'⟩; have HP := Lib.hid hput7; have hyS := (hy7.outH (G' := G) (by omega) t ⟨t, 0, s', false, x'⟩).at ht HFT.out; have mS := HBm.out _ (hT7.s.kp.setH (g := G) hWB t ⟨t, 0, s', false, x'⟩); have nS := HFm.out _ (hT7.s.kp.setH (g := G) hWB t ⟨t, 0, s', false, x'⟩); unfold setH at hyS mS nS; dsimp only at hyS mS nS; clear hm hk hput7
            (try go_wp2_with fail)
            refine hkC.out _ _ (⟨hX7, hY7, m7, n7⟩) (⟨hY7, m7, n7⟩) (fun hK => ?_)
            clear hkC kC
            try simp only [Act.put, List.setIfInBounds_toArray, List.set_cons_zero, List.set_cons_succ]
            refine wpAnyK_mid (i := 15) (by kernel_rfl) (by simp only [List.getElem?_toArray, List.getElem?_cons_succ, List.getElem?_cons_zero]; rfl) (by kernel_rfl) (fun kC hkC => ?_)
            go_simp
            refine hkC.out _ _ (⟨hyS, mS, nS⟩) (fun hM => ?_)
            clear hkC kC
            try simp only [Act.put, List.setIfInBounds_toArray, List.set_cons_zero, List.set_cons_succ]
            refine wpAnyK_take2 (i := 16) (v := ?_) (by simp only [List.getElem?_toArray, List.getElem?_cons_succ, List.getElem?_cons_zero]; rfl) (by kernel_rfl) (by kernel_rfl) (by kernel_rfl) (by kernel_rfl) (by kernel_rfl) (by kernel_rfl) (by exact fun _ _ _ h => h) (Or.inl ⟨by rfl, ?_⟩) (ReqK.mid (by kernel_rfl) hM) ?_
            rotate_left
            · intro w hSw; (try dsimp only at hSw); go_simp; (try with_reducible rfl)
            try simp only [Act.put, List.setIfInBounds_toArray, List.set_cons_zero, List.set_cons_succ]
            refine wpAnyK_last (i := 17) (by kernel_rfl) (by simp only [List.getElem?_toArray, List.getElem?_cons_succ, List.getElem?_cons_zero]; rfl) (by kernel_rfl) (by kernel_rfl) (fun kC hkC => ?_)
            go_simp
            refine hkC.out _ _ ?_
            clear hkC kC
            try simp only [Act.put, List.setIfInBounds_toArray, List.set_cons_zero, List.set_cons_succ]
            refine wpAnyK_done (by kernel_rfl) ?_ _
            have hP := HP.out
            unfold setH at hP
            dsimp only at hP
            generalize (((((((((w7.setCell ⟨G, t * 5, none⟩ (.int .i64 t)).setCell ⟨G, t * 5 + 1, none⟩ (.int .i64 0)).setCell ⟨G, t * 5 + 2, none⟩ (.int .i64 s')).setCell ⟨G, t * 5 + 3, none⟩ (.bool false)).setCell ⟨G, t * 5 + 4, none⟩ (.int .i64 x')).setCell ⟨(G + 1), t * 5, none⟩ (.int .i64 t)).setCell ⟨(G + 1), t * 5 + 1, none⟩ (.int .i64 0)).setCell ⟨(G + 1), t * 5 + 2, none⟩ (.int .i64 s')).setCell ⟨(G + 1), t * 5 + 3, none⟩ (.bool false)).setCell ⟨(G + 1), t * 5 + 4, none⟩ (.int .i64 x') = wz at *
            have hft' : hput f t ⟨t, 0, s', false, x'⟩ t = ⟨t, 0, s', false, x'⟩ := by simp [hput]
            generalize hput f t ⟨t, 0, s', false, x'⟩ = f' at *
            have HX' := Lib.hid hP; have HFT' := Lib.hid hft'
            clear hP HP hft' hT5 hT7 hx5 hx7 hy5 hy7 hb5 hb7 m5 m7 n5 n7 hX5 hX7 hY5 hY7 F0 F1 F2 F3 F4 G0 G1 G2 G3 G4 hl7 hyS mS nS hXd hK hM u0 u1 u2 u3 u4 v0 v1 v2 v3 v4 m0 m1 m2 m3 m4 n0 n1 n2 n3 n4 HX2 hxl hyl
            obtain ⟨u0, u1, u2, u3, u4⟩ := HX'.out.r.x.at ht HFT'.out
            obtain ⟨v0, v1, v2, v3, v4⟩ := HX'.out.r.y.at ht HFT'.out
            have hTd := HX'.out.r.t.keep ((Keeps.refl NoS _).drew)
            go_wp2_with fail
            refine wp_region_held_drew (S := (fun w' => (w'.cell? ⟨G, t * 5, none⟩ = some (.int .i64 t) ∧ w'.cell? ⟨G, t * 5 + 1, none⟩ = some (.int .i64 0) ∧ w'.cell? ⟨G, t * 5 + 2, none⟩ = some (.int .i64 s') ∧ w'.cell? ⟨G, t * 5 + 3, none⟩ = some (.bool false) ∧ w'.cell? ⟨G, t * 5 + 4, none⟩ = some (.int .i64 x')) ∧ (w'.cell? ⟨(G + 1), t * 5, none⟩ = some (.int .i64 t) ∧ w'.cell? ⟨(G + 1), t * 5 + 1, none⟩ = some (.int .i64 0) ∧ w'.cell? ⟨(G + 1), t * 5 + 2, none⟩ = some (.int .i64 s') ∧ w'.cell? ⟨(G + 1), t * 5 + 3, none⟩ = some (.bool false) ∧ w'.cell? ⟨(G + 1), t * 5 + 4, none⟩ = some (.int .i64 x')))) (by kernel_rfl) (⟨⟨u0, u1, u2, u3, u4⟩, ⟨v0, v1, v2, v3, v4⟩⟩) (fun hHeld => ?_)
            refine wpAnyH_take (i := 0) (v := ?_) (by simp only [List.getElem?_toArray, List.getElem?_cons_succ, List.getElem?_cons_zero]; rfl) (by kernel_rfl) (by kernel_rfl) (by kernel_rfl) (by exact fun _ _ _ h => h) (Or.inl ⟨by rfl, ?_⟩) hHeld ?_
            rotate_left
            · intro w hSw; (try dsimp only at hSw); go_simp; (try with_reducible rfl)
            try simp only [Act.put, List.setIfInBounds_toArray, List.set_cons_zero, List.set_cons_succ]
            refine wpAnyH_take (i := 1) (v := ?_) (by simp only [List.getElem?_toArray, List.getElem?_cons_succ, List.getElem?_cons_zero]; rfl) (by kernel_rfl) (by kernel_rfl) (by kernel_rfl) (by exact fun _ _ _ h => h) (Or.inl ⟨by rfl, ?_⟩) hHeld ?_
            rotate_left
            · intro w hSw; (try dsimp only at hSw); go_simp; (try with_reducible rfl)
            try simp only [Act.put, List.setIfInBounds_toArray, List.set_cons_zero, List.set_cons_succ]
            refine wpAnyH_take (i := 2) (v := ?_) (by simp only [List.getElem?_toArray, List.getElem?_cons_succ, List.getElem?_cons_zero]; rfl) (by kernel_rfl) (by kernel_rfl) (by kernel_rfl) (by exact fun _ _ _ h => h) (Or.inl ⟨by rfl, ?_⟩) hHeld ?_
            rotate_left
            · intro w hSw; (try dsimp only at hSw); go_simp; (try with_reducible rfl)
            try simp only [Act.put, List.setIfInBounds_toArray, List.set_cons_zero, List.set_cons_succ]
            refine wpAnyH_take (i := 3) (v := ?_) (by simp only [List.getElem?_toArray, List.getElem?_cons_succ, List.getElem?_cons_zero]; rfl) (by kernel_rfl) (by kernel_rfl) (by kernel_rfl) (by exact fun _ _ _ h => h) (Or.inl ⟨by rfl, ?_⟩) hHeld ?_
            rotate_left
            · intro w hSw; (try dsimp only at hSw); go_simp; (try with_reducible rfl)
            try simp only [Act.put, List.setIfInBounds_toArray, List.set_cons_zero, List.set_cons_succ]
            refine wpAnyH_take (i := 4) (v := ?_) (by simp only [List.getElem?_toArray, List.getElem?_cons_succ, List.getElem?_cons_zero]; rfl) (by kernel_rfl) (by kernel_rfl) (by kernel_rfl) (by exact fun _ _ _ h => h) (Or.inl ⟨by rfl, ?_⟩) hHeld ?_
            rotate_left
            · intro w hSw; (try dsimp only at hSw); go_simp; (try with_reducible rfl)
            try simp only [Act.put, List.setIfInBounds_toArray, List.set_cons_zero, List.set_cons_succ]
            refine wpAnyH_take (i := 5) (v := ?_) (by simp only [List.getElem?_toArray, List.getElem?_cons_succ, List.getElem?_cons_zero]; rfl) (by kernel_rfl) (by kernel_rfl) (by kernel_rfl) (by exact fun _ _ _ h => h) (Or.inl ⟨by rfl, ?_⟩) hHeld ?_
            rotate_left
            · intro w hSw; (try dsimp only at hSw); go_simp; (try with_reducible rfl)
            try simp only [Act.put, List.setIfInBounds_toArray, List.set_cons_zero, List.set_cons_succ]
            refine wpAnyH_take (i := 6) (v := ?_) (by simp only [List.getElem?_toArray, List.getElem?_cons_succ, List.getElem?_cons_zero]; rfl) (by kernel_rfl) (by kernel_rfl) (by kernel_rfl) (by exact fun _ _ _ h => h) (Or.inl ⟨by rfl, ?_⟩) hHeld ?_
            rotate_left
            · intro w hSw; (try dsimp only at hSw); go_simp; (try with_reducible rfl)
            try simp only [Act.put, List.setIfInBounds_toArray, List.set_cons_zero, List.set_cons_succ]
            refine wpAnyH_take (i := 7) (v := ?_) (by simp only [List.getElem?_toArray, List.getElem?_cons_succ, List.getElem?_cons_zero]; rfl) (by kernel_rfl) (by kernel_rfl) (by kernel_rfl) (by exact fun _ _ _ h => h) (Or.inl ⟨by rfl, ?_⟩) hHeld ?_
            rotate_left
            · intro w hSw; (try dsimp only at hSw); go_simp; (try with_reducible rfl)
            try simp only [Act.put, List.setIfInBounds_toArray, List.set_cons_zero, List.set_cons_succ]
            refine wpAnyH_take (i := 8) (v := ?_) (by simp only [List.getElem?_toArray, List.getElem?_cons_succ, List.getElem?_cons_zero]; rfl) (by kernel_rfl) (by kernel_rfl) (by kernel_rfl) (by exact fun _ _ _ h => h) (Or.inl ⟨by rfl, ?_⟩) hHeld ?_
            rotate_left
            · intro w hSw; (try dsimp only at hSw); go_simp; (try with_reducible rfl)
            try simp only [Act.put, List.setIfInBounds_toArray, List.set_cons_zero, List.set_cons_succ]
            refine wpAnyH_take (i := 9) (v := ?_) (by simp only [List.getElem?_toArray, List.getElem?_cons_succ, List.getElem?_cons_zero]; rfl) (by kernel_rfl) (by kernel_rfl) (by kernel_rfl) (by exact fun _ _ _ h => h) (Or.inl ⟨by rfl, ?_⟩) hHeld ?_
            rotate_left
            · intro w hSw; (try dsimp only at hSw); go_simp; (try with_reducible rfl)
            try simp only [Act.put, List.setIfInBounds_toArray, List.set_cons_zero, List.set_cons_succ]
            refine wpAnyH_ready (rs := [10]) (by kernel_rfl) (by simp) ?_
            refine AllReadyH.cons (by simp only [List.getElem?_toArray, List.getElem?_cons_succ, List.getElem?_cons_zero]; rfl) (fun kC hkC => ?_) AllReadyH.nil
            go_simp
            refine (like_keep W _ a c v u M' hTd).mono ?_; rintro e w8 ⟨rfl, hT8, hk8⟩; have hX8 := (HX'.out.no ((Keeps.refl NoS _).drew)).no hk8
            (try go_wp2_with fail)
            refine hkC.out _ _ (And.intro (hX8.r.x.at ht HFT'.out) (hX8.r.y.at ht HFT'.out)) (fun hHeld => ?_)
            clear hkC kC
            try simp only [Act.put, List.setIfInBounds_toArray, List.set_cons_zero, List.set_cons_succ]
            refine wpAnyH_take (i := 11) (v := ?_) (by simp only [List.getElem?_toArray, List.getElem?_cons_succ, List.getElem?_cons_zero]; rfl) (by kernel_rfl) (by kernel_rfl) (by kernel_rfl) (by exact fun _ _ _ h => h) (Or.inl ⟨by rfl, ?_⟩) hHeld ?_
            rotate_left
            · intro w hSw; (try dsimp only at hSw); go_simp; (try with_reducible rfl)
            try simp only [Act.put, List.setIfInBounds_toArray, List.set_cons_zero, List.set_cons_succ]
            refine wpAnyH_take (i := 12) (v := ?_) (by simp only [List.getElem?_toArray, List.getElem?_cons_succ, List.getElem?_cons_zero]; rfl) (by kernel_rfl) (by kernel_rfl) (by kernel_rfl) (by exact fun _ _ _ h => h) (Or.inl ⟨by rfl, ?_⟩) hHeld ?_
            rotate_left
            · intro w hSw; (try dsimp only at hSw); go_simp; (try with_reducible rfl)
            try simp only [Act.put, List.setIfInBounds_toArray, List.set_cons_zero, List.set_cons_succ]
            refine wpAnyH_done (by kernel_rfl) ?_ _
            go_wp2_with fail
            go_roundw
            case rel => exact ⟨n + 1, M', f', _, by omega, by go_num, hX8, HI'.out⟩
            case measure => simp [intOf]; omega
          · obtain ⟨M', s', x', hd, hln⟩ := mTakeI_hand (M := M) ht s x
            have HX2 := HX
            have HD := Lib.hid hd; have HM := Lib.hid HI.out.1; have HI' := Lib.hid (HI.out.put (t := t) (s := s') (x := x') hln)
            clear hd hln
            obtain ⟨m0, m1, m2, m3, m4⟩ := HBm.out _ HX2.out.r.t.s.kp
            obtain ⟨n0, n1, n2, n3, n4⟩ := HFm.out _ HX2.out.r.t.s.kp
            have cn2 := HCN.out _ HX2.out.r.t.s.kp
            obtain ⟨u0, u1, u2, u3, u4⟩ := HX2.out.r.x.at ht HFT.out
            obtain ⟨v0, v1, v2, v3, v4⟩ := HX2.out.r.y.at ht HFT.out
            have hxl := HX2.out.r.x.lt
            have hyl := HX2.out.r.y.lt
            go_upto_region 25 with fail
            clear cn cn2 hz hq HCN y0 y1 y2 y3 y4 o1 o2 hol HX HI
            have hXd := HX2.out.no ((Keeps.refl NoS _).drew)
            refine wp_region_kept_drew 15 (fun w' => (w'.cell? ⟨G, t * 5, none⟩ = some (.int .i64 t) ∧ w'.cell? ⟨G, t * 5 + 1, none⟩ = some (.int .i64 0) ∧ w'.cell? ⟨G, t * 5 + 2, none⟩ = some (.int .i64 s) ∧ w'.cell? ⟨G, t * 5 + 3, none⟩ = some (.bool false) ∧ w'.cell? ⟨G, t * 5 + 4, none⟩ = some (.int .i64 x)) ∧ (w'.cell? ⟨(G + 1), t * 5, none⟩ = some (.int .i64 t) ∧ w'.cell? ⟨(G + 1), t * 5 + 1, none⟩ = some (.int .i64 0) ∧ w'.cell? ⟨(G + 1), t * 5 + 2, none⟩ = some (.int .i64 s) ∧ w'.cell? ⟨(G + 1), t * 5 + 3, none⟩ = some (.bool false) ∧ w'.cell? ⟨(G + 1), t * 5 + 4, none⟩ = some (.int .i64 x)) ∧ (w'.cell? ⟨B, 0, none⟩ = some (.int .i64 2) ∧ w'.cell? ⟨B, 1, none⟩ = some (.int .i64 2) ∧ w'.cell? ⟨B, 2, none⟩ = some (.int .i64 4) ∧ w'.cell? ⟨B, 3, none⟩ = some (.int .i64 0) ∧ w'.cell? ⟨B, 4, none⟩ = some (.int .i64 2)) ∧ (w'.cell? ⟨F, 0, none⟩ = some (.int .i64 2) ∧ w'.cell? ⟨F, 1, none⟩ = some (.int .i64 2) ∧ w'.cell? ⟨F, 2, none⟩ = some (.int .i64 4) ∧ w'.cell? ⟨F, 3, none⟩ = some (.int .i64 0) ∧ w'.cell? ⟨F, 4, none⟩ = some (.int .i64 2))) 17 (fun w' => (w'.cell? ⟨(G + 1), t * 5, none⟩ = some (.int .i64 t) ∧ w'.cell? ⟨(G + 1), t * 5 + 1, none⟩ = some (.int .i64 0) ∧ w'.cell? ⟨(G + 1), t * 5 + 2, none⟩ = some (.int .i64 s) ∧ w'.cell? ⟨(G + 1), t * 5 + 3, none⟩ = some (.bool false) ∧ w'.cell? ⟨(G + 1), t * 5 + 4, none⟩ = some (.int .i64 x)) ∧ (w'.cell? ⟨B, 0, none⟩ = some (.int .i64 2) ∧ w'.cell? ⟨B, 1, none⟩ = some (.int .i64 2) ∧ w'.cell? ⟨B, 2, none⟩ = some (.int .i64 4) ∧ w'.cell? ⟨B, 3, none⟩ = some (.int .i64 0) ∧ w'.cell? ⟨B, 4, none⟩ = some (.int .i64 2)) ∧ (w'.cell? ⟨F, 0, none⟩ = some (.int .i64 2) ∧ w'.cell? ⟨F, 1, none⟩ = some (.int .i64 2) ∧ w'.cell? ⟨F, 2, none⟩ = some (.int .i64 4) ∧ w'.cell? ⟨F, 3, none⟩ = some (.int .i64 0) ∧ w'.cell? ⟨F, 4, none⟩ = some (.int .i64 2))) (by kernel_rfl) (⟨⟨u0, u1, u2, u3, u4⟩, ⟨v0, v1, v2, v3, v4⟩, ⟨m0, m1, m2, m3, m4⟩, ⟨n0, n1, n2, n3, n4⟩⟩) (⟨⟨v0, v1, v2, v3, v4⟩, ⟨m0, m1, m2, m3, m4⟩, ⟨n0, n1, n2, n3, n4⟩⟩) (fun hK => ?_)
            refine wpAnyK_take1 (i := 0) (v := ?_) (by simp only [List.getElem?_toArray, List.getElem?_cons_succ, List.getElem?_cons_zero]; rfl) (by kernel_rfl) (by kernel_rfl) (by kernel_rfl) (by kernel_rfl) (by kernel_rfl) (by kernel_rfl) (by exact fun _ _ _ h => h) (Or.inl ⟨by rfl, ?_⟩) (hK _) ?_
            rotate_left
            · intro w hSw; (try dsimp only at hSw); go_simp; (try with_reducible rfl)
            try simp only [Act.put, List.setIfInBounds_toArray, List.set_cons_zero, List.set_cons_succ]
            refine wpAnyK_take2 (i := 1) (v := ?_) (by simp only [List.getElem?_toArray, List.getElem?_cons_succ, List.getElem?_cons_zero]; rfl) (by kernel_rfl) (by kernel_rfl) (by kernel_rfl) (by kernel_rfl) (by kernel_rfl) (by kernel_rfl) (by exact fun _ _ _ h => h) (Or.inl ⟨by rfl, ?_⟩) (hK _) ?_
            rotate_left
            · intro w hSw; (try dsimp only at hSw); go_simp; (try with_reducible rfl)
            try simp only [Act.put, List.setIfInBounds_toArray, List.set_cons_zero, List.set_cons_succ]
            refine wpAnyK_take1 (i := 2) (v := ?_) (by simp only [List.getElem?_toArray, List.getElem?_cons_succ, List.getElem?_cons_zero]; rfl) (by kernel_rfl) (by kernel_rfl) (by kernel_rfl) (by kernel_rfl) (by kernel_rfl) (by kernel_rfl) (by exact fun _ _ _ h => h) (Or.inl ⟨by rfl, ?_⟩) (hK _) ?_
            rotate_left
            · intro w hSw; (try dsimp only at hSw); go_simp; (try with_reducible rfl)
            try simp only [Act.put, List.setIfInBounds_toArray, List.set_cons_zero, List.set_cons_succ]
            refine wpAnyK_take1 (i := 3) (v := ?_) (by simp only [List.getElem?_toArray, List.getElem?_cons_succ, List.getElem?_cons_zero]; rfl) (by kernel_rfl) (by kernel_rfl) (by kernel_rfl) (by kernel_rfl) (by kernel_rfl) (by kernel_rfl) (by exact fun _ _ _ h => h) (Or.inl ⟨by rfl, ?_⟩) (hK _) ?_
            rotate_left
            · intro w hSw; (try dsimp only at hSw); go_simp; (try with_reducible rfl)
            try simp only [Act.put, List.setIfInBounds_toArray, List.set_cons_zero, List.set_cons_succ]
            refine wpAnyK_take1 (i := 4) (v := ?_) (by simp only [List.getElem?_toArray, List.getElem?_cons_succ, List.getElem?_cons_zero]; rfl) (by kernel_rfl) (by kernel_rfl) (by kernel_rfl) (by kernel_rfl) (by kernel_rfl) (by kernel_rfl) (by exact fun _ _ _ h => h) (Or.inl ⟨by rfl, ?_⟩) (hK _) ?_
            rotate_left
            · intro w hSw; (try dsimp only at hSw); go_simp; (try with_reducible rfl)
            try simp only [Act.put, List.setIfInBounds_toArray, List.set_cons_zero, List.set_cons_succ]
            refine wpAnyK_take1 (i := 5) (v := ?_) (by simp only [List.getElem?_toArray, List.getElem?_cons_succ, List.getElem?_cons_zero]; rfl) (by kernel_rfl) (by kernel_rfl) (by kernel_rfl) (by kernel_rfl) (by kernel_rfl) (by kernel_rfl) (by exact fun _ _ _ h => h) (Or.inl ⟨by rfl, ?_⟩) (hK _) ?_
            rotate_left
            · intro w hSw; (try dsimp only at hSw); go_simp; (try with_reducible rfl)
            try simp only [Act.put, List.setIfInBounds_toArray, List.set_cons_zero, List.set_cons_succ]
            refine wpAnyK_take1 (i := 6) (v := ?_) (by simp only [List.getElem?_toArray, List.getElem?_cons_succ, List.getElem?_cons_zero]; rfl) (by kernel_rfl) (by kernel_rfl) (by kernel_rfl) (by kernel_rfl) (by kernel_rfl) (by kernel_rfl) (by exact fun _ _ _ h => h) (Or.inl ⟨by rfl, ?_⟩) (hK _) ?_
            rotate_left
            · intro w hSw; (try dsimp only at hSw); go_simp; (try with_reducible rfl)
            try simp only [Act.put, List.setIfInBounds_toArray, List.set_cons_zero, List.set_cons_succ]
            refine wpAnyK_take2 (i := 8) (v := ?_) (by simp only [List.getElem?_toArray, List.getElem?_cons_succ, List.getElem?_cons_zero]; rfl) (by kernel_rfl) (by kernel_rfl) (by kernel_rfl) (by kernel_rfl) (by kernel_rfl) (by kernel_rfl) (by exact fun _ _ _ h => h) (Or.inl ⟨by rfl, ?_⟩) (hK _) ?_
            rotate_left
            · intro w hSw; (try dsimp only at hSw); go_simp; (try with_reducible rfl)
            try simp only [Act.put, List.setIfInBounds_toArray, List.set_cons_zero, List.set_cons_succ]
            refine wpAnyK_take2 (i := 9) (v := ?_) (by simp only [List.getElem?_toArray, List.getElem?_cons_succ, List.getElem?_cons_zero]; rfl) (by kernel_rfl) (by kernel_rfl) (by kernel_rfl) (by kernel_rfl) (by kernel_rfl) (by kernel_rfl) (by exact fun _ _ _ h => h) (Or.inl ⟨by rfl, ?_⟩) (hK _) ?_
            rotate_left
            · intro w hSw; (try dsimp only at hSw); go_simp; (try with_reducible rfl)
            try simp only [Act.put, List.setIfInBounds_toArray, List.set_cons_zero, List.set_cons_succ]
            refine wpAnyK_take2 (i := 10) (v := ?_) (by simp only [List.getElem?_toArray, List.getElem?_cons_succ, List.getElem?_cons_zero]; rfl) (by kernel_rfl) (by kernel_rfl) (by kernel_rfl) (by kernel_rfl) (by kernel_rfl) (by kernel_rfl) (by exact fun _ _ _ h => h) (Or.inl ⟨by rfl, ?_⟩) (hK _) ?_
            rotate_left
            · intro w hSw; (try dsimp only at hSw); go_simp; (try with_reducible rfl)
            try simp only [Act.put, List.setIfInBounds_toArray, List.set_cons_zero, List.set_cons_succ]
            refine wpAnyK_take2 (i := 11) (v := ?_) (by simp only [List.getElem?_toArray, List.getElem?_cons_succ, List.getElem?_cons_zero]; rfl) (by kernel_rfl) (by kernel_rfl) (by kernel_rfl) (by kernel_rfl) (by kernel_rfl) (by kernel_rfl) (by exact fun _ _ _ h => h) (Or.inl ⟨by rfl, ?_⟩) (hK _) ?_
            rotate_left
            · intro w hSw; (try dsimp only at hSw); go_simp; (try with_reducible rfl)
            try simp only [Act.put, List.setIfInBounds_toArray, List.set_cons_zero, List.set_cons_succ]
            refine wpAnyK_take2 (i := 12) (v := ?_) (by simp only [List.getElem?_toArray, List.getElem?_cons_succ, List.getElem?_cons_zero]; rfl) (by kernel_rfl) (by kernel_rfl) (by kernel_rfl) (by kernel_rfl) (by kernel_rfl) (by kernel_rfl) (by exact fun _ _ _ h => h) (Or.inl ⟨by rfl, ?_⟩) (hK _) ?_
            rotate_left
            · intro w hSw; (try dsimp only at hSw); go_simp; (try with_reducible rfl)
            try simp only [Act.put, List.setIfInBounds_toArray, List.set_cons_zero, List.set_cons_succ]
            refine wpAnyK_one (i := 7) (by kernel_rfl) (by simp only [List.getElem?_toArray, List.getElem?_cons_succ, List.getElem?_cons_zero]; rfl) (fun kC hkC => ?_)
            go_simp
            refine (take8_any t 0 s false x a v M _ hXd.r.t.s.m HM.out).mono ?_; rw [HD.out]; unfold handV; dsimp only; rintro e w5 ⟨rfl, hm, hk⟩; have hT5 := hXd.r.t.turnS hm hk; have hx5 := hXd.r.x.keep hk (HA.out.na (Nat.le_refl _)); have hy5 := hXd.r.y.keep hk (HA.out.na (by omega)); have hb5 := hXd.b.keep hk (HA.out.na (by omega)); have m5 := HBm.out _ hT5.s.kp; have n5 := HFm.out _ hT5.s.kp; have hX5 := hx5.at ht HFT.out; have hY5 := hy5.at ht HFT.out; clear hm hk
            (try go_wp2_with fail)
            refine hkC.out _ _ (⟨hX5, hY5, m5, n5⟩) (⟨hY5, m5, n5⟩) (fun hK => ?_)
            clear hkC kC
            try simp only [Act.put, List.setIfInBounds_toArray, List.set_cons_zero, List.set_cons_succ]
            refine wpAnyK_take1 (i := 14) (v := ?_) (by simp only [List.getElem?_toArray, List.getElem?_cons_succ, List.getElem?_cons_zero]; rfl) (by kernel_rfl) (by kernel_rfl) (by kernel_rfl) (by kernel_rfl) (by kernel_rfl) (by kernel_rfl) (by exact fun _ _ _ h => h) (Or.inl ⟨by rfl, ?_⟩) (hK _) ?_
            rotate_left
            · intro w hSw; (try dsimp only at hSw); go_simp; (try with_reducible rfl)
            try simp only [Act.put, List.setIfInBounds_toArray, List.set_cons_zero, List.set_cons_succ]
            refine wpAnyK_one (i := 13) (by kernel_rfl) (by simp only [List.getElem?_toArray, List.getElem?_cons_succ, List.getElem?_cons_zero]; rfl) (fun kC hkC => ?_)
            go_simp
            refine (rtake8_any t 0 s false x c u M _ hT5.r.m HM.out).mono ?_; rw [HD.out]; unfold handV; dsimp only; rintro e w7 ⟨rfl, hm, hk⟩; have hT7 := hT5.turnR hm hk; have hx7 := hx5.keep hk (HA.out.nc (Nat.le_refl _)); have hy7 := hy5.keep hk (HA.out.nc (by omega)); have hb7 := hb5.keep hk (HA.out.nc (by omega)); have m7 := HBm.out _ hT7.s.kp; have n7 := HFm.out _ hT7.s.kp; have hX7 := hx7.at ht HFT.out; have hY7 := hy7.at ht HFT.out; obtain ⟨F0, F1, F2, F3, F4⟩ := hx7.frees t; obtain ⟨G0, G1, G2, G3, G4⟩ := hy7.frees t; have hl7 := hy7.lt; have hput7 := RnS.put (f := f) ⟨⟨hT7, hx7, hy7⟩, hb7⟩ HA.out t ht ⟨t, 0, s', false, x'⟩; have HP := Lib.hid hput7; have hyS := (hy7.outH (G' := G) (by omega) t ⟨t, 0, s', false, x'⟩).at ht HFT.out; have mS := HBm.out _ (hT7.s.kp.setH (g := G) hWB t ⟨t, 0, s', false, x'⟩); have nS := HFm.out _ (hT7.s.kp.setH (g := G) hWB t ⟨t, 0, s', false, x'⟩); unfold setH at hyS mS nS; dsimp only at hyS mS nS; clear hm hk hput7
            (try go_wp2_with fail)
            refine hkC.out _ _ (⟨hX7, hY7, m7, n7⟩) (⟨hY7, m7, n7⟩) (fun hK => ?_)
            clear hkC kC
            try simp only [Act.put, List.setIfInBounds_toArray, List.set_cons_zero, List.set_cons_succ]
            refine wpAnyK_mid (i := 15) (by kernel_rfl) (by simp only [List.getElem?_toArray, List.getElem?_cons_succ, List.getElem?_cons_zero]; rfl) (by kernel_rfl) (fun kC hkC => ?_)
            go_simp
            refine hkC.out _ _ (⟨hyS, mS, nS⟩) (fun hM => ?_)
            clear hkC kC
            try simp only [Act.put, List.setIfInBounds_toArray, List.set_cons_zero, List.set_cons_succ]
            refine wpAnyK_take2 (i := 16) (v := ?_) (by simp only [List.getElem?_toArray, List.getElem?_cons_succ, List.getElem?_cons_zero]; rfl) (by kernel_rfl) (by kernel_rfl) (by kernel_rfl) (by kernel_rfl) (by kernel_rfl) (by kernel_rfl) (by exact fun _ _ _ h => h) (Or.inl ⟨by rfl, ?_⟩) (ReqK.mid (by kernel_rfl) hM) ?_
            rotate_left
            · intro w hSw; (try dsimp only at hSw); go_simp; (try with_reducible rfl)
            try simp only [Act.put, List.setIfInBounds_toArray, List.set_cons_zero, List.set_cons_succ]
            refine wpAnyK_last (i := 17) (by kernel_rfl) (by simp only [List.getElem?_toArray, List.getElem?_cons_succ, List.getElem?_cons_zero]; rfl) (by kernel_rfl) (by kernel_rfl) (fun kC hkC => ?_)
            go_simp
            refine hkC.out _ _ ?_
            clear hkC kC
            try simp only [Act.put, List.setIfInBounds_toArray, List.set_cons_zero, List.set_cons_succ]
            refine wpAnyK_done (by kernel_rfl) ?_ _
            have hP := HP.out
            unfold setH at hP
            dsimp only at hP
            generalize (((((((((w7.setCell ⟨G, t * 5, none⟩ (.int .i64 t)).setCell ⟨G, t * 5 + 1, none⟩ (.int .i64 0)).setCell ⟨G, t * 5 + 2, none⟩ (.int .i64 s')).setCell ⟨G, t * 5 + 3, none⟩ (.bool false)).setCell ⟨G, t * 5 + 4, none⟩ (.int .i64 x')).setCell ⟨(G + 1), t * 5, none⟩ (.int .i64 t)).setCell ⟨(G + 1), t * 5 + 1, none⟩ (.int .i64 0)).setCell ⟨(G + 1), t * 5 + 2, none⟩ (.int .i64 s')).setCell ⟨(G + 1), t * 5 + 3, none⟩ (.bool false)).setCell ⟨(G + 1), t * 5 + 4, none⟩ (.int .i64 x') = wz at *
            have hft' : hput f t ⟨t, 0, s', false, x'⟩ t = ⟨t, 0, s', false, x'⟩ := by simp [hput]
            generalize hput f t ⟨t, 0, s', false, x'⟩ = f' at *
            have HX' := Lib.hid hP; have HFT' := Lib.hid hft'
            clear hP HP hft' hT5 hT7 hx5 hx7 hy5 hy7 hb5 hb7 m5 m7 n5 n7 hX5 hX7 hY5 hY7 F0 F1 F2 F3 F4 G0 G1 G2 G3 G4 hl7 hyS mS nS hXd hK hM u0 u1 u2 u3 u4 v0 v1 v2 v3 v4 m0 m1 m2 m3 m4 n0 n1 n2 n3 n4 HX2 hxl hyl
            obtain ⟨u0, u1, u2, u3, u4⟩ := HX'.out.r.x.at ht HFT'.out
            obtain ⟨v0, v1, v2, v3, v4⟩ := HX'.out.r.y.at ht HFT'.out
            have hTd := HX'.out.r.t.keep ((Keeps.refl NoS _).drew)
            go_wp2_with fail
            refine wp_region_held_drew (S := (fun w' => (w'.cell? ⟨G, t * 5, none⟩ = some (.int .i64 t) ∧ w'.cell? ⟨G, t * 5 + 1, none⟩ = some (.int .i64 0) ∧ w'.cell? ⟨G, t * 5 + 2, none⟩ = some (.int .i64 s') ∧ w'.cell? ⟨G, t * 5 + 3, none⟩ = some (.bool false) ∧ w'.cell? ⟨G, t * 5 + 4, none⟩ = some (.int .i64 x')) ∧ (w'.cell? ⟨(G + 1), t * 5, none⟩ = some (.int .i64 t) ∧ w'.cell? ⟨(G + 1), t * 5 + 1, none⟩ = some (.int .i64 0) ∧ w'.cell? ⟨(G + 1), t * 5 + 2, none⟩ = some (.int .i64 s') ∧ w'.cell? ⟨(G + 1), t * 5 + 3, none⟩ = some (.bool false) ∧ w'.cell? ⟨(G + 1), t * 5 + 4, none⟩ = some (.int .i64 x')))) (by kernel_rfl) (⟨⟨u0, u1, u2, u3, u4⟩, ⟨v0, v1, v2, v3, v4⟩⟩) (fun hHeld => ?_)
            refine wpAnyH_take (i := 0) (v := ?_) (by simp only [List.getElem?_toArray, List.getElem?_cons_succ, List.getElem?_cons_zero]; rfl) (by kernel_rfl) (by kernel_rfl) (by kernel_rfl) (by exact fun _ _ _ h => h) (Or.inl ⟨by rfl, ?_⟩) hHeld ?_
            rotate_left
            · intro w hSw; (try dsimp only at hSw); go_simp; (try with_reducible rfl)
            try simp only [Act.put, List.setIfInBounds_toArray, List.set_cons_zero, List.set_cons_succ]
            refine wpAnyH_take (i := 1) (v := ?_) (by simp only [List.getElem?_toArray, List.getElem?_cons_succ, List.getElem?_cons_zero]; rfl) (by kernel_rfl) (by kernel_rfl) (by kernel_rfl) (by exact fun _ _ _ h => h) (Or.inl ⟨by rfl, ?_⟩) hHeld ?_
            rotate_left
            · intro w hSw; (try dsimp only at hSw); go_simp; (try with_reducible rfl)
            try simp only [Act.put, List.setIfInBounds_toArray, List.set_cons_zero, List.set_cons_succ]
            refine wpAnyH_take (i := 2) (v := ?_) (by simp only [List.getElem?_toArray, List.getElem?_cons_succ, List.getElem?_cons_zero]; rfl) (by kernel_rfl) (by kernel_rfl) (by kernel_rfl) (by exact fun _ _ _ h => h) (Or.inl ⟨by rfl, ?_⟩) hHeld ?_
            rotate_left
            · intro w hSw; (try dsimp only at hSw); go_simp; (try with_reducible rfl)
            try simp only [Act.put, List.setIfInBounds_toArray, List.set_cons_zero, List.set_cons_succ]
            refine wpAnyH_take (i := 3) (v := ?_) (by simp only [List.getElem?_toArray, List.getElem?_cons_succ, List.getElem?_cons_zero]; rfl) (by kernel_rfl) (by kernel_rfl) (by kernel_rfl) (by exact fun _ _ _ h => h) (Or.inl ⟨by rfl, ?_⟩) hHeld ?_
            rotate_left
            · intro w hSw; (try dsimp only at hSw); go_simp; (try with_reducible rfl)
            try simp only [Act.put, List.setIfInBounds_toArray, List.set_cons_zero, List.set_cons_succ]
            refine wpAnyH_take (i := 4) (v := ?_) (by simp only [List.getElem?_toArray, List.getElem?_cons_succ, List.getElem?_cons_zero]; rfl) (by kernel_rfl) (by kernel_rfl) (by kernel_rfl) (by exact fun _ _ _ h => h) (Or.inl ⟨by rfl, ?_⟩) hHeld ?_
            rotate_left
            · intro w hSw; (try dsimp only at hSw); go_simp; (try with_reducible rfl)
            try simp only [Act.put, List.setIfInBounds_toArray, List.set_cons_zero, List.set_cons_succ]
            refine wpAnyH_take (i := 5) (v := ?_) (by simp only [List.getElem?_toArray, List.getElem?_cons_succ, List.getElem?_cons_zero]; rfl) (by kernel_rfl) (by kernel_rfl) (by kernel_rfl) (by exact fun _ _ _ h => h) (Or.inl ⟨by rfl, ?_⟩) hHeld ?_
            rotate_left
            · intro w hSw; (try dsimp only at hSw); go_simp; (try with_reducible rfl)
            try simp only [Act.put, List.setIfInBounds_toArray, List.set_cons_zero, List.set_cons_succ]
            refine wpAnyH_take (i := 6) (v := ?_) (by simp only [List.getElem?_toArray, List.getElem?_cons_succ, List.getElem?_cons_zero]; rfl) (by kernel_rfl) (by kernel_rfl) (by kernel_rfl) (by exact fun _ _ _ h => h) (Or.inl ⟨by rfl, ?_⟩) hHeld ?_
            rotate_left
            · intro w hSw; (try dsimp only at hSw); go_simp; (try with_reducible rfl)
            try simp only [Act.put, List.setIfInBounds_toArray, List.set_cons_zero, List.set_cons_succ]
            refine wpAnyH_take (i := 7) (v := ?_) (by simp only [List.getElem?_toArray, List.getElem?_cons_succ, List.getElem?_cons_zero]; rfl) (by kernel_rfl) (by kernel_rfl) (by kernel_rfl) (by exact fun _ _ _ h => h) (Or.inl ⟨by rfl, ?_⟩) hHeld ?_
            rotate_left
            · intro w hSw; (try dsimp only at hSw); go_simp; (try with_reducible rfl)
            try simp only [Act.put, List.setIfInBounds_toArray, List.set_cons_zero, List.set_cons_succ]
            refine wpAnyH_take (i := 8) (v := ?_) (by simp only [List.getElem?_toArray, List.getElem?_cons_succ, List.getElem?_cons_zero]; rfl) (by kernel_rfl) (by kernel_rfl) (by kernel_rfl) (by exact fun _ _ _ h => h) (Or.inl ⟨by rfl, ?_⟩) hHeld ?_
            rotate_left
            · intro w hSw; (try dsimp only at hSw); go_simp; (try with_reducible rfl)
            try simp only [Act.put, List.setIfInBounds_toArray, List.set_cons_zero, List.set_cons_succ]
            refine wpAnyH_take (i := 9) (v := ?_) (by simp only [List.getElem?_toArray, List.getElem?_cons_succ, List.getElem?_cons_zero]; rfl) (by kernel_rfl) (by kernel_rfl) (by kernel_rfl) (by exact fun _ _ _ h => h) (Or.inl ⟨by rfl, ?_⟩) hHeld ?_
            rotate_left
            · intro w hSw; (try dsimp only at hSw); go_simp; (try with_reducible rfl)
            try simp only [Act.put, List.setIfInBounds_toArray, List.set_cons_zero, List.set_cons_succ]
            refine wpAnyH_ready (rs := [10]) (by kernel_rfl) (by simp) ?_
            refine AllReadyH.cons (by simp only [List.getElem?_toArray, List.getElem?_cons_succ, List.getElem?_cons_zero]; rfl) (fun kC hkC => ?_) AllReadyH.nil
            go_simp
            refine (like_keep W _ a c v u M' hTd).mono ?_; rintro e w8 ⟨rfl, hT8, hk8⟩; have hX8 := (HX'.out.no ((Keeps.refl NoS _).drew)).no hk8
            (try go_wp2_with fail)
            refine hkC.out _ _ (And.intro (hX8.r.x.at ht HFT'.out) (hX8.r.y.at ht HFT'.out)) (fun hHeld => ?_)
            clear hkC kC
            try simp only [Act.put, List.setIfInBounds_toArray, List.set_cons_zero, List.set_cons_succ]
            refine wpAnyH_take (i := 11) (v := ?_) (by simp only [List.getElem?_toArray, List.getElem?_cons_succ, List.getElem?_cons_zero]; rfl) (by kernel_rfl) (by kernel_rfl) (by kernel_rfl) (by exact fun _ _ _ h => h) (Or.inl ⟨by rfl, ?_⟩) hHeld ?_
            rotate_left
            · intro w hSw; (try dsimp only at hSw); go_simp; (try with_reducible rfl)
            try simp only [Act.put, List.setIfInBounds_toArray, List.set_cons_zero, List.set_cons_succ]
            refine wpAnyH_take (i := 12) (v := ?_) (by simp only [List.getElem?_toArray, List.getElem?_cons_succ, List.getElem?_cons_zero]; rfl) (by kernel_rfl) (by kernel_rfl) (by kernel_rfl) (by exact fun _ _ _ h => h) (Or.inl ⟨by rfl, ?_⟩) hHeld ?_
            rotate_left
            · intro w hSw; (try dsimp only at hSw); go_simp; (try with_reducible rfl)
            try simp only [Act.put, List.setIfInBounds_toArray, List.set_cons_zero, List.set_cons_succ]
            refine wpAnyH_done (by kernel_rfl) ?_ _
            go_wp2_with fail
            go_roundw
            case rel => exact ⟨n + 1, M', f', _, by omega, by go_num, hX8, HI'.out⟩
            case measure => simp [intOf]; omega
        · obtain rfl : n = L.length := by omega
          have hTd := HX.out.r.t.keep ((Keeps.refl NoS _).drew)
          have HML := Lib.hid HI.out.1
          obtain ⟨la, hla⟩ : ∃ z, lastI M 0 = z := ⟨_, rfl⟩
          have HLA := Lib.hid hla
          clear hla
          go_wp2_with fail
          refine wp_region_held_drew (S := (fun w' => (w'.cell? ⟨B, 0, none⟩ = some (.int .i64 2) ∧ w'.cell? ⟨B, 1, none⟩ = some (.int .i64 2) ∧ w'.cell? ⟨B, 2, none⟩ = some (.int .i64 4) ∧ w'.cell? ⟨B, 3, none⟩ = some (.int .i64 0) ∧ w'.cell? ⟨B, 4, none⟩ = some (.int .i64 2)) ∧ (w'.cell? ⟨F, 0, none⟩ = some (.int .i64 2) ∧ w'.cell? ⟨F, 1, none⟩ = some (.int .i64 2) ∧ w'.cell? ⟨F, 2, none⟩ = some (.int .i64 4) ∧ w'.cell? ⟨F, 3, none⟩ = some (.int .i64 0) ∧ w'.cell? ⟨F, 4, none⟩ = some (.int .i64 2)))) (by kernel_rfl) (And.intro (HBm.out _ hTd.s.kp) (HFm.out _ hTd.s.kp)) (fun hHeld => ?_)
          refine wpAnyH_ready (rs := [0]) (by kernel_rfl) (by simp) ?_
          refine AllReadyH.cons (by simp only [List.getElem?_toArray, List.getElem?_cons_succ, List.getElem?_cons_zero]; rfl) (fun kC hkC => ?_) AllReadyH.nil
          go_simp
          refine (told9_any _).mono ?_; rintro e x1' ⟨rfl, hkk⟩; have hT1 := hTd.keep hkk; clear hkk
          (try go_wp2_with fail)
          refine hkC.out _ _ (And.intro (HBm.out _ hT1.s.kp) (HFm.out _ hT1.s.kp)) (fun hHeld => ?_)
          clear hkC kC
          try simp only [Act.put, List.setIfInBounds_toArray, List.set_cons_zero, List.set_cons_succ]
          refine wpAnyH_take (i := 1) (v := ?_) (by simp only [List.getElem?_toArray, List.getElem?_cons_succ, List.getElem?_cons_zero]; rfl) (by kernel_rfl) (by kernel_rfl) (by kernel_rfl) (by exact fun _ _ _ h => h) (Or.inl ⟨by rfl, ?_⟩) hHeld ?_
          rotate_left
          · intro w hSw; (try dsimp only at hSw); go_simp; (try with_reducible rfl)
          try simp only [Act.put, List.setIfInBounds_toArray, List.set_cons_zero, List.set_cons_succ]
          refine wpAnyH_take (i := 2) (v := ?_) (by simp only [List.getElem?_toArray, List.getElem?_cons_succ, List.getElem?_cons_zero]; rfl) (by kernel_rfl) (by kernel_rfl) (by kernel_rfl) (by exact fun _ _ _ h => h) (Or.inl ⟨by rfl, ?_⟩) hHeld ?_
          rotate_left
          · intro w hSw; (try dsimp only at hSw); go_simp; (try with_reducible rfl)
          try simp only [Act.put, List.setIfInBounds_toArray, List.set_cons_zero, List.set_cons_succ]
          refine wpAnyH_take (i := 3) (v := ?_) (by simp only [List.getElem?_toArray, List.getElem?_cons_succ, List.getElem?_cons_zero]; rfl) (by kernel_rfl) (by kernel_rfl) (by kernel_rfl) (by exact fun _ _ _ h => h) (Or.inl ⟨by rfl, ?_⟩) hHeld ?_
          rotate_left
          · intro w hSw; (try dsimp only at hSw); go_simp; (try with_reducible rfl)
          try simp only [Act.put, List.setIfInBounds_toArray, List.set_cons_zero, List.set_cons_succ]
          refine wpAnyH_ready (rs := [4]) (by kernel_rfl) (by simp) ?_
          refine AllReadyH.cons (by simp only [List.getElem?_toArray, List.getElem?_cons_succ, List.getElem?_cons_zero]; rfl) (fun kC hkC => ?_) AllReadyH.nil
          go_simp
          refine (same_any a c v u M M _ hT1.s.m hT1.r.m rfl).mono ?_; rintro e x2' ⟨rfl, hkk⟩; have hT2 := hT1.keep hkk; clear hkk
          (try go_wp2_with fail)
          refine hkC.out _ _ (And.intro (HBm.out _ hT2.s.kp) (HFm.out _ hT2.s.kp)) (fun hHeld => ?_)
          clear hkC kC
          try simp only [Act.put, List.setIfInBounds_toArray, List.set_cons_zero, List.set_cons_succ]
          refine wpAnyH_take (i := 5) (v := ?_) (by simp only [List.getElem?_toArray, List.getElem?_cons_succ, List.getElem?_cons_zero]; rfl) (by kernel_rfl) (by kernel_rfl) (by kernel_rfl) (by exact fun _ _ _ h => h) (Or.inl ⟨by rfl, ?_⟩) hHeld ?_
          rotate_left
          · intro w hSw; (try dsimp only at hSw); go_simp; (try with_reducible rfl)
          try simp only [Act.put, List.setIfInBounds_toArray, List.set_cons_zero, List.set_cons_succ]
          refine wpAnyH_take (i := 6) (v := ?_) (by simp only [List.getElem?_toArray, List.getElem?_cons_succ, List.getElem?_cons_zero]; rfl) (by kernel_rfl) (by kernel_rfl) (by kernel_rfl) (by exact fun _ _ _ h => h) (Or.inl ⟨by rfl, ?_⟩) hHeld ?_
          rotate_left
          · intro w hSw; (try dsimp only at hSw); go_simp; (try with_reducible rfl)
          try simp only [Act.put, List.setIfInBounds_toArray, List.set_cons_zero, List.set_cons_succ]
          refine wpAnyH_take (i := 7) (v := ?_) (by simp only [List.getElem?_toArray, List.getElem?_cons_succ, List.getElem?_cons_zero]; rfl) (by kernel_rfl) (by kernel_rfl) (by kernel_rfl) (by exact fun _ _ _ h => h) (Or.inl ⟨by rfl, ?_⟩) hHeld ?_
          rotate_left
          · intro w hSw; (try dsimp only at hSw); go_simp; (try with_reducible rfl)
          try simp only [Act.put, List.setIfInBounds_toArray, List.set_cons_zero, List.set_cons_succ]
          refine wpAnyH_take (i := 8) (v := ?_) (by simp only [List.getElem?_toArray, List.getElem?_cons_succ, List.getElem?_cons_zero]; rfl) (by kernel_rfl) (by kernel_rfl) (by kernel_rfl) (by exact fun _ _ _ h => h) (Or.inl ⟨by rfl, ?_⟩) hHeld ?_
          rotate_left
          · intro w hSw; (try dsimp only at hSw); go_simp; (try with_reducible rfl)
          try simp only [Act.put, List.setIfInBounds_toArray, List.set_cons_zero, List.set_cons_succ]
          refine wpAnyH_take (i := 10) (v := ?_) (by simp only [List.getElem?_toArray, List.getElem?_cons_succ, List.getElem?_cons_zero]; rfl) (by kernel_rfl) (by kernel_rfl) (by kernel_rfl) (by exact fun _ _ _ h => h) (Or.inl ⟨by rfl, ?_⟩) hHeld ?_
          rotate_left
          · intro w hSw; (try dsimp only at hSw); go_simp; (try with_reducible rfl)
          try simp only [Act.put, List.setIfInBounds_toArray, List.set_cons_zero, List.set_cons_succ]
          refine wpAnyH_take (i := 11) (v := ?_) (by simp only [List.getElem?_toArray, List.getElem?_cons_succ, List.getElem?_cons_zero]; rfl) (by kernel_rfl) (by kernel_rfl) (by kernel_rfl) (by exact fun _ _ _ h => h) (Or.inl ⟨by rfl, ?_⟩) hHeld ?_
          rotate_left
          · intro w hSw; (try dsimp only at hSw); go_simp; (try with_reducible rfl)
          try simp only [Act.put, List.setIfInBounds_toArray, List.set_cons_zero, List.set_cons_succ]
          refine wpAnyH_ready (rs := [9]) (by kernel_rfl) (by simp) ?_
          refine AllReadyH.cons (by simp only [List.getElem?_toArray, List.getElem?_cons_succ, List.getElem?_cons_zero]; rfl) (fun kC hkC => ?_) AllReadyH.nil
          go_simp
          refine (last8_any 0 a v M _ hT2.s.m HML.out).mono ?_; rw [HLA.out]; rintro e x3' ⟨rfl, hkk⟩; have hT3 := hT2.keep hkk; clear hkk
          (try go_wp2_with fail)
          refine hkC.out _ _ (And.intro (HBm.out _ hT3.s.kp) (HFm.out _ hT3.s.kp)) (fun hHeld => ?_)
          clear hkC kC
          try simp only [Act.put, List.setIfInBounds_toArray, List.set_cons_zero, List.set_cons_succ]
          refine wpAnyH_ready (rs := [12]) (by kernel_rfl) (by simp) ?_
          refine AllReadyH.cons (by simp only [List.getElem?_toArray, List.getElem?_cons_succ, List.getElem?_cons_zero]; rfl) (fun kC hkC => ?_) AllReadyH.nil
          go_simp
          refine (rlast8_any 0 c u M _ hT3.r.m HML.out).mono ?_; rw [HLA.out]; rintro e x4' ⟨rfl, hkk⟩; have hT4 := hT3.keep hkk; clear hkk
          (try go_wp2_with fail)
          refine hkC.out _ _ (And.intro (HBm.out _ hT4.s.kp) (HFm.out _ hT4.s.kp)) (fun hHeld => ?_)
          clear hkC kC
          try simp only [Act.put, List.setIfInBounds_toArray, List.set_cons_zero, List.set_cons_succ]
          refine wpAnyH_take (i := 13) (v := ?_) (by simp only [List.getElem?_toArray, List.getElem?_cons_succ, List.getElem?_cons_zero]; rfl) (by kernel_rfl) (by kernel_rfl) (by kernel_rfl) (by exact fun _ _ _ h => h) (Or.inl ⟨by rfl, ?_⟩) hHeld ?_
          rotate_left
          · intro w hSw; (try dsimp only at hSw); go_simp; (try with_reducible rfl)
          try simp only [Act.put, List.setIfInBounds_toArray, List.set_cons_zero, List.set_cons_succ]
          refine wpAnyH_take (i := 14) (v := ?_) (by simp only [List.getElem?_toArray, List.getElem?_cons_succ, List.getElem?_cons_zero]; rfl) (by kernel_rfl) (by kernel_rfl) (by kernel_rfl) (by exact fun _ _ _ h => h) (Or.inl ⟨by rfl, ?_⟩) hHeld ?_
          rotate_left
          · intro w hSw; (try dsimp only at hSw); go_simp; (try with_reducible rfl)
          try simp only [Act.put, List.setIfInBounds_toArray, List.set_cons_zero, List.set_cons_succ]
          refine wpAnyH_take (i := 15) (v := ?_) (by simp only [List.getElem?_toArray, List.getElem?_cons_succ, List.getElem?_cons_zero]; rfl) (by kernel_rfl) (by kernel_rfl) (by kernel_rfl) (by exact fun _ _ _ h => h) (Or.inl ⟨by rfl, ?_⟩) hHeld ?_
          rotate_left
          · intro w hSw; (try dsimp only at hSw); go_simp; (try with_reducible rfl)
          try simp only [Act.put, List.setIfInBounds_toArray, List.set_cons_zero, List.set_cons_succ]
          refine wpAnyH_done (by kernel_rfl) ?_ _
          go_wp2_with fail
          go_ret
          exact ⟨by simp, HWk.out.trans hT4.s.kp⟩
end Go.Proofs.Ytchgfdfdkcijnaa
