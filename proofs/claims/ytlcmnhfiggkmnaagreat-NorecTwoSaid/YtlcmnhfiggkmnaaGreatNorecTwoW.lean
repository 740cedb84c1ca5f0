/- NorecTwo: the walk through the law's code. -/
import Derived.Test.YtlcmnhfiggkmnaaGreatDxM
import Derived.Deep.CutBlock
import Derived.Deep.LoopGhost
import Derived.Deep.DeepCutAuto
namespace Go.Proofs.YtlcmnhfiggkmnaaGreat
open Go.RowKit
set_option maxHeartbeats 60000000 in
set_option maxRecDepth 100000 in
theorem norecTwo_main (w : World) (cl : Int) (v1 v2 v3 : Value) (L1 L2 : NRows) (L3 : NBools) (hin1 : InN 3 w v1 L1) (hin2 : InN 3 w v2 L2) (hin3 : InBo w v3 L3) : Calls Tryz.prog 3 #[.int .i64 cl, v1, v2, v3] w fun e w' => e = .returned (.bool true) ∧ Keeps NoS w w' := by
  obtain ⟨p1, cap1, rfl, hmx1, hc1⟩ := hin1
  obtain ⟨p2, cap2, rfl, hmx2, hc2⟩ := hin2
  obtain ⟨p3, cap3, rfl, hmx3, hc3⟩ := hin3
  have HC1 := Lib.hid hc1; have HC2 := Lib.hid hc2; have HC3 := Lib.hid hc3
  clear hc1 hc2 hc3
  by_cases h1 : 8 < L1.len
  · have e1 : decide ((8 : Int) < (L1.len : Int)) = true := decide_eq_true (by omega)
    go_enter Tryz.func3, Tryz.ntmps3
    go_wp2_with (go_at_call 4; refine (told16_any _).mono ?_; rintro e wt ⟨rfl, hkt⟩)
    go_ret
    exact ⟨rfl, hkt⟩
  have e1 : decide ((8 : Int) < (L1.len : Int)) = false := decide_eq_false (by omega)
  by_cases h2 : 8 < L2.len
  · have e2 : decide ((8 : Int) < (L2.len : Int)) = true := decide_eq_true (by omega)
    go_enter Tryz.func3, Tryz.ntmps3
    go_wp2_with (go_at_call 4; refine (told16_any _).mono ?_; rintro e wt ⟨rfl, hkt⟩)
    go_ret
    exact ⟨rfl, hkt⟩
  have e2 : decide ((8 : Int) < (L2.len : Int)) = false := decide_eq_false (by omega)
  by_cases h3 : 150 < L3.len
  · have e3 : decide ((150 : Int) < (L3.len : Int)) = true := decide_eq_true (by omega)
    go_enter Tryz.func3, Tryz.ntmps3
    go_wp2_with (go_at_call 4; refine (told16_any _).mono ?_; rintro e wt ⟨rfl, hkt⟩)
    go_ret
    exact ⟨rfl, hkt⟩
  have e3 : decide ((150 : Int) < (L3.len : Int)) = false := decide_eq_false (by omega)
  go_enter Tryz.func3, Tryz.ntmps3
  go_upto_region 4 with (go_at_call 5; refine (map16_any _).mono ?_; rintro e w1 ⟨rfl, hk1⟩)
  have hB := mapAt_new w1 3 1 3 0 4 26
  have hk1' := hk1.alloc (.cells #[.int .i64 3, .int .i64 1, .int .i64 3, .int .i64 0, .int .i64 4] 26)
  have hs1 := hk1.size
  obtain ⟨B, hBe⟩ : ∃ B, w1.heap.size = B := ⟨_, rfl⟩
  have hBl : B < (w1.alloc (.cells #[.int .i64 3, .int .i64 1, .int .i64 3, .int .i64 0, .int .i64 4] 26)).heap.size := by rw [← hBe]; simp
  have hBw : w.heap.size ≤ B := by omega
  rw [hBe] at hB
  (try rw [hBe])
  generalize w1.alloc (.cells #[.int .i64 3, .int .i64 1, .int .i64 3, .int .i64 0, .int .i64 4] 26) = W at *
  clear hk1 hBe hs1
  have HWk := Lib.hid hk1'
  have HMB := Lib.hid hB
  obtain ⟨m0, m1, m2, m3, m4⟩ := hB
  go_upto_region 5 with (go_at_call 6; refine (both_any 3 1 3 0 4 34 (by kernel_rfl) (by decide) (by decide) W).mono ?_; rintro e w2 ⟨a, c, v, u, rfl, hT⟩)
  have HT := Lib.hid hT
  have HBB := Lib.hid (And.intro hBw hBl)
  clear m0 m1 m2 m3 m4 hBl hBw hk1' hT e1 e2 e3
  go_upto_region 6 with fail
  go_wp2_with fail
  refine (xNew16_any 0 _ (.inl rfl) _).mono ?_
  rintro e w3 ⟨X0, r0, s0, rfl, n0⟩
  go_wp2_with fail
  refine (xNew16_any 2 _ (.inr (.inr rfl)) _).mono ?_
  rintro e w4 ⟨X2, r2, s2, rfl, n2⟩
  go_wp2_with fail
  refine (dRef_any 0 _ (.inl rfl) _).mono ?_
  rintro e w5 ⟨Y0, rfl, d0⟩
  go_wp2_with fail
  refine (dRef_any 2 _ (.inr (.inr rfl)) _).mono ?_
  rintro e w6 ⟨Y2, rfl, d2⟩
  go_upto_region 7 with fail
  have hxa : ((w6.alloc (.cells #[.pointer (some ⟨X0, 0, none⟩), .pointer (some ⟨X2, 0, none⟩)] 35)).alloc (.cells #[.pointer (some ⟨Y0, 0, none⟩), .pointer (some ⟨Y2, 0, none⟩)] 38)).heap[w6.heap.size]? = some (.cells #[.pointer (some ⟨X0, 0, none⟩), .pointer (some ⟨X2, 0, none⟩)] 35 (0, 0)) := ((Keeps.refl NoS _).alloc _).blk (heap_alloc_new _ _) (fun f => f)
  have hya : ((w6.alloc (.cells #[.pointer (some ⟨X0, 0, none⟩), .pointer (some ⟨X2, 0, none⟩)] 35)).alloc (.cells #[.pointer (some ⟨Y0, 0, none⟩), .pointer (some ⟨Y2, 0, none⟩)] 38)).heap[w6.heap.size + 1]? = some (.cells #[.pointer (some ⟨Y0, 0, none⟩), .pointer (some ⟨Y2, 0, none⟩)] 38 (0, 0)) := by
    have := heap_alloc_new (w6.alloc (.cells #[.pointer (some ⟨X0, 0, none⟩), .pointer (some ⟨X2, 0, none⟩)] 35)) (.cells #[.pointer (some ⟨Y0, 0, none⟩), .pointer (some ⟨Y2, 0, none⟩)] 38)
    simpa using this
  have hsz : ((w6.alloc (.cells #[.pointer (some ⟨X0, 0, none⟩), .pointer (some ⟨X2, 0, none⟩)] 35)).alloc (.cells #[.pointer (some ⟨Y0, 0, none⟩), .pointer (some ⟨Y2, 0, none⟩)] 38)).heap.size = w6.heap.size + 2 := by simp
  have k67 : Keeps NoS w6 ((w6.alloc (.cells #[.pointer (some ⟨X0, 0, none⟩), .pointer (some ⟨X2, 0, none⟩)] 35)).alloc (.cells #[.pointer (some ⟨Y0, 0, none⟩), .pointer (some ⟨Y2, 0, none⟩)] 38)) := ((Keeps.refl NoS w6).alloc _).alloc _
  obtain ⟨YA, hYA⟩ : ∃ YA, w6.heap.size + 1 = YA := ⟨_, rfl⟩
  obtain ⟨XA, hXA⟩ : ∃ XA, w6.heap.size = XA := ⟨_, rfl⟩
  rw [hYA] at hya
  (try rw [hYA])
  rw [hXA] at hxa
  (try rw [hXA])
  generalize (w6.alloc (.cells #[.pointer (some ⟨X0, 0, none⟩), .pointer (some ⟨X2, 0, none⟩)] 35)).alloc (.cells #[.pointer (some ⟨Y0, 0, none⟩), .pointer (some ⟨Y2, 0, none⟩)] 38) = w7 at *
  have x0 : w7.cell? ⟨XA, 0, none⟩ = some (.pointer (some ⟨X0, 0, none⟩)) := by rw [blk_cell hxa]; rfl
  have x1 : w7.cell? ⟨XA, 1, none⟩ = some (.pointer (some ⟨X2, 0, none⟩)) := by rw [blk_cell hxa]; rfl
  have HSZ := Lib.hid hsz; have HYX := Lib.hid (And.intro hYA hXA)
  clear hsz hYA hXA
  go_wp2_with fail
  have hsz := HSZ.out
  obtain ⟨hYA, hXA⟩ := HYX.out
  have K8 : Keeps NoS w7 (((w7.alloc (.cells #[.int .i64 0, .int .i64 0] 39)).alloc (.cells #[.int .i64 0, .int .i64 0] 39)).alloc (.cells #[.slice p1 L1.len cap1, .slice p2 L2.len cap2] 40)) := (((Keeps.refl NoS w7).alloc _).alloc _).alloc _
  have hea : (((w7.alloc (.cells #[.int .i64 0, .int .i64 0] 39)).alloc (.cells #[.int .i64 0, .int .i64 0] 39)).alloc (.cells #[.slice p1 L1.len cap1, .slice p2 L2.len cap2] 40)).heap[w7.heap.size]? = some (.cells #[.int .i64 0, .int .i64 0] 39 (0, 0)) := (((Keeps.refl NoS _).alloc _).alloc _).blk (heap_alloc_new _ _) (fun f => f)
  have heb : (((w7.alloc (.cells #[.int .i64 0, .int .i64 0] 39)).alloc (.cells #[.int .i64 0, .int .i64 0] 39)).alloc (.cells #[.slice p1 L1.len cap1, .slice p2 L2.len cap2] 40)).heap[w7.heap.size + 1]? = some (.cells #[.int .i64 0, .int .i64 0] 39 (0, 0)) := by
    have hz : (w7.alloc (.cells #[.int .i64 0, .int .i64 0] 39)).heap.size = w7.heap.size + 1 := by simp
    rw [← hz]
    exact ((Keeps.refl NoS _).alloc _).blk (heap_alloc_new _ _) (fun f => f)
  have hpl : (((w7.alloc (.cells #[.int .i64 0, .int .i64 0] 39)).alloc (.cells #[.int .i64 0, .int .i64 0] 39)).alloc (.cells #[.slice p1 L1.len cap1, .slice p2 L2.len cap2] 40)).heap[w7.heap.size + 2]? = some (.cells #[.slice p1 L1.len cap1, .slice p2 L2.len cap2] 40 (0, 0)) := by
    have := heap_alloc_new ((w7.alloc (.cells #[.int .i64 0, .int .i64 0] 39)).alloc (.cells #[.int .i64 0, .int .i64 0] 39)) (.cells #[.slice p1 L1.len cap1, .slice p2 L2.len cap2] 40)
    simpa using this
  have hs8 : (((w7.alloc (.cells #[.int .i64 0, .int .i64 0] 39)).alloc (.cells #[.int .i64 0, .int .i64 0] 39)).alloc (.cells #[.slice p1 L1.len cap1, .slice p2 L2.len cap2] 40)).heap.size = w7.heap.size + 3 := by simp
  obtain ⟨PL, hPL⟩ : ∃ z, w7.heap.size + 2 = z := ⟨_, rfl⟩
  obtain ⟨EB, hEB⟩ : ∃ z, w7.heap.size + 1 = z := ⟨_, rfl⟩
  obtain ⟨EA, hEA⟩ : ∃ z, w7.heap.size = z := ⟨_, rfl⟩
  rw [hPL] at hpl
  rw [hEB] at heb
  rw [hEA] at hea
  (try rw [hPL])
  (try rw [hEB])
  (try rw [hEA])
  generalize ((w7.alloc (.cells #[.int .i64 0, .int .i64 0] 39)).alloc (.cells #[.int .i64 0, .int .i64 0] 39)).alloc (.cells #[.slice p1 L1.len cap1, .slice p2 L2.len cap2] 40) = w8 at *
  have hWL := WL.made (w := w) (p0 := .slice p1 L1.len cap1) (p2 := .slice p2 L2.len cap2) HT.out HBB.out HMB.out HWk.out n0 n2 d0 d2 (k67.trans K8) (EA := EA) (EB := EB) (XA := XA) (YA := YA) (PL := PL)
    ⟨by omega, by omega⟩ ⟨by omega, by omega⟩ ⟨by omega, by omega⟩ ⟨by omega, by omega⟩ ⟨by omega, by omega⟩ ⟨_, hea⟩ ⟨_, heb⟩ ⟨_, K8.blk hxa (fun f => f)⟩ ⟨_, K8.blk hya (fun f => f)⟩ ⟨_, hpl⟩
  have hTI := fun n => TwI.new n (wrap64 (1 + wrap64 ((IntKind.u64.wrap cl).tmod 2))) (M0 34) (M0_len 34)
  obtain ⟨P, hP⟩ : ∃ P : TwP, P = ⟨two X0 X2, two r0 r2, two s0 s2, two Y0 Y2, a, v, c, u, EA, EB, XA, YA, PL, B⟩ := ⟨_, rfl⟩
  rw [← hP] at hWL
  have g1 : a = P.a := by rw [hP]
  have g2 : v = P.v := by rw [hP]
  have g3 : c = P.c := by rw [hP]
  have g4 : u = P.u := by rw [hP]
  have g5 : EA = P.EA := by rw [hP]
  have g6 : EB = P.EB := by rw [hP]
  have g7 : XA = P.XA := by rw [hP]
  have g8 : YA = P.YA := by rw [hP]
  have g9 : PL = P.PL := by rw [hP]
  have gb : B = P.B := by rw [hP]
  clear hP hPL hEB hEA hs8 hsz hXA hYA hxa hya hea heb hpl x0 x1 n0 n2 d0 d2 K8 k67 HT HBB HMB HWk HSZ HYX
  subst g1 g2 g3 g4 g5 g6 g7 g8 g9 gb
  obtain ⟨sl, hsl⟩ : ∃ f, f = two (Value.slice p1 L1.len cap1) (.slice p2 L2.len cap2) := ⟨_, rfl⟩
  obtain ⟨Lf, hLf⟩ : ∃ f, f = two L1 L2 := ⟨_, rfl⟩
  obtain ⟨n, hn⟩ : ∃ n : Nat → Nat, n = fun k => (Lf k).len := ⟨_, rfl⟩
  rw [← hsl] at hWL
  have HNL := Lib.hid (show ∀ k, (Lf k).len = n k from fun k => by rw [hn])
  have HIN := Lib.hid (show ∀ k, k < 2 → InN 3 w (sl k) (Lf k) from fun k hk => by
    rw [hsl, hLf]
    rcases (show k = 0 ∨ k = 1 by omega) with rfl | rfl
    · exact ⟨p1, cap1, rfl, hmx1, HC1.out⟩
    · exact ⟨p2, cap2, rfl, hmx2, HC2.out⟩)
  have HN8 := Lib.hid (show ∀ k, k < 2 → n k ≤ 8 from fun k hk => by
    rw [hn, hLf]
    rcases (show k = 0 ∨ k = 1 by omega) with rfl | rfl
    · show L1.len ≤ 8; omega
    · show L2.len ≤ 8; omega)
  have HW0 := Lib.hid hWL
  have HI0 := Lib.hid (hTI n)
  clear hsl hLf hn hWL hTI HC1 HC2
  go_loopg [18] L3.len (fun g iv wq => ∃ (i : Nat) (V : TwV) (M : MemS) (t : Nat → TxS) (d : Nat → DxS) (at_ bu : Nat → Int), i + g = L3.len ∧ iv = .int .i64 i ∧ WL w wq P V M M t d at_ bu sl ∧ TwI n M t d at_ bu)
  case atStart => exact ⟨0, _, _, _, _, _, _, by omega, rfl, HW0.out, HI0.out⟩
  case round =>
    obtain ⟨i, V, M, t, d, at_, bu, hig, rfl, hw, hi⟩ := hrel
    have HX := Lib.hid hw; have HI := Lib.hid hi
    clear hw hi HW0 HI0
    by_cases hlt : i < L3.len
    · have i0 : (0 : Int) ≤ (i : Int) := by omega
      have i1 : (i : Int) < (L3.len : Int) := by omega
      obtain ⟨b, off, rfl, hcs⟩ := HC3.out (by omega)
      have cn := HX.out.kp.cell (hcs i hlt) (fun f => f)
      clear hcs
      generalize L3.F i = z at *
      go_upto_if 85 with fail
      go_cut [19] (fun tv wx => ∃ k : Nat, k < 2 ∧ tv = .int .i64 k ∧ wx = wr)
      case first =>
        cases z with
        | true =>
          go_wp2_with fail
          go_meet
          exact ⟨1, by decide, rfl, rfl⟩
        | false =>
          go_wp2_with fail
          go_meet
          exact ⟨0, by decide, rfl, rfl⟩
      case rest =>
        obtain ⟨k, hk2, rfl, rfl⟩ := hcut
        have k0 : (0 : Int) ≤ (k : Int) := by omega
        have k1 : (k : Int) < 2 := by omega
        obtain ⟨cB, fB, lB⟩ := HX.out.cB hk2
        obtain ⟨b0, hb0⟩ : ∃ z, bu k = z := ⟨_, rfl⟩
        rw [hb0] at cB
        have HBU := Lib.hid hb0
        clear hb0 cn
        go_upto_if 89 with fail
        go_cut [] (fun wx => ∃ (V' : TwV) (M' : MemS) (t' : Nat → TxS) (d' : Nat → DxS) (at' bu' : Nat → Int), WL w wx P V' M' M' t' d' at' bu' sl ∧ TwJ n k M' t' d' at' bu')
        case first =>
          by_cases hbz : b0 = 0
          · as_aux_lemma =>
              have eb : (b0 == 0) = true := by simpa using hbz
              obtain ⟨cA, fA, lA⟩ := HX.out.cA hk2
              obtain ⟨A, hA⟩ : ∃ z, at_ k = z := ⟨_, rfl⟩
              rw [hA] at cA
              have hA0 : 0 ≤ A := by have := (HI.out.a0 k hk2).1; rw [hA] at this; exact this
              have hA1 : A ≤ (n k : Int) + 1 := by have := HI.out.ab k hk2 (by rw [HBU.out]; exact hbz); rw [hA] at this; exact this
              have hn8 := HN8.out k hk2
              have HAT := Lib.hid hA
              clear hA
              go_upto_block 2 with fail
              go_cut [20, 21] (fun c1 c2 wx => ∃ (V' : TwV) (cc : Int) (t1 : TxS) (d1 : DxS), c1 = .int .i64 cc ∧ c2 = .int .i64 cc ∧ WL w wx P V' M M (fput t k t1) (fput d k d1) at_ bu sl ∧ Sim t1 d1 ∧ TI t1 ∧ 0 ≤ d1.i)
              case first =>
                by_cases hA0 : A = 0
                · as_aux_lemma =>
                    have HSR := Lib.hid (sim_begin (HI.out.sim k hk2))
                    have eA : (A == 0) = true := by simpa using hA0
                    go_upto_region 25 with fail
                    have hX0 := HX.out.no ((Keeps.refl NoS wc).drew)
                    refine wp_region_held_drew (S := (fun w' => (w'.cell? ⟨P.XA, k, none⟩ = some (.pointer (some ⟨P.X k, 0, none⟩)) ∧ w'.cell? ⟨P.YA, k, none⟩ = some (.pointer (some ⟨P.Y k, 0, none⟩))) ∧ True)) (by kernel_rfl) (⟨⟨hX0.cX hk2, hX0.cY hk2⟩, trivial⟩) (fun hHeld => ?_)
                    refine wpAnyH_take (i := 0) (v := ?_) (by simp only [List.getElem?_toArray, List.getElem?_cons_succ, List.getElem?_cons_zero]; rfl) (by kernel_rfl) (by kernel_rfl) (by kernel_rfl) (by exact fun _ _ _ h => h) (Or.inl ⟨by rfl, ?_⟩) hHeld ?_
                    rotate_left
                    · intro w hSw; (try dsimp only at hSw); go_simp; (try with_reducible rfl)
                    try simp only [Act.put, List.setIfInBounds_toArray, List.set_cons_zero, List.set_cons_succ]
                    refine wpAnyH_take (i := 1) (v := ?_) (by simp only [List.getElem?_toArray, List.getElem?_cons_succ, List.getElem?_cons_zero]; rfl) (by kernel_rfl) (by kernel_rfl) (by kernel_rfl) (by exact fun _ _ _ h => h) (Or.inl ⟨by rfl, ?_⟩) hHeld ?_
                    rotate_left
                    · intro w hSw; (try dsimp only at hSw); go_simp; (try with_reducible rfl)
                    try simp only [Act.put, List.setIfInBounds_toArray, List.set_cons_zero, List.set_cons_succ]
                    refine wpAnyH_take (i := 2) (v := ?_) (by simp only [List.getElem?_toArray, List.getElem?_cons_succ, List.getElem?_cons_zero]; rfl) (by kernel_rfl) (by kernel_rfl) (by kernel_rfl) (by exact fun _ _ _ h => h) (Or.inl ⟨by rfl, ?_⟩) hHeld ?_
                    rotate_left
                    · intro w hSw; (try dsimp only at hSw); go_simp; (try with_reducible rfl)
                    try simp only [Act.put, List.setIfInBounds_toArray, List.set_cons_zero, List.set_cons_succ]
                    refine wpAnyH_take (i := 4) (v := ?_) (by simp only [List.getElem?_toArray, List.getElem?_cons_succ, List.getElem?_cons_zero]; rfl) (by kernel_rfl) (by kernel_rfl) (by kernel_rfl) (by exact fun _ _ _ h => h) (Or.inl ⟨by rfl, ?_⟩) hHeld ?_
                    rotate_left
                    · intro w hSw; (try dsimp only at hSw); go_simp; (try with_reducible rfl)
                    try simp only [Act.put, List.setIfInBounds_toArray, List.set_cons_zero, List.set_cons_succ]
                    refine wpAnyH_take (i := 5) (v := ?_) (by simp only [List.getElem?_toArray, List.getElem?_cons_succ, List.getElem?_cons_zero]; rfl) (by kernel_rfl) (by kernel_rfl) (by kernel_rfl) (by exact fun _ _ _ h => h) (Or.inl ⟨by rfl, ?_⟩) hHeld ?_
                    rotate_left
                    · intro w hSw; (try dsimp only at hSw); go_simp; (try with_reducible rfl)
                    try simp only [Act.put, List.setIfInBounds_toArray, List.set_cons_zero, List.set_cons_succ]
                    refine wpAnyH_take (i := 6) (v := ?_) (by simp only [List.getElem?_toArray, List.getElem?_cons_succ, List.getElem?_cons_zero]; rfl) (by kernel_rfl) (by kernel_rfl) (by kernel_rfl) (by exact fun _ _ _ h => h) (Or.inl ⟨by rfl, ?_⟩) hHeld ?_
                    rotate_left
                    · intro w hSw; (try dsimp only at hSw); go_simp; (try with_reducible rfl)
                    try simp only [Act.put, List.setIfInBounds_toArray, List.set_cons_zero, List.set_cons_succ]
                    refine wpAnyH_ready (rs := [3]) (by kernel_rfl) (by simp) ?_
                    refine AllReadyH.cons (by simp only [List.getElem?_toArray, List.getElem?_cons_succ, List.getElem?_cons_zero]; rfl) (fun kC hkC => ?_) AllReadyH.nil
                    go_simp
                    refine (xBegin_any (hX0.nx hk2)).mono ?_; rintro e w5 ⟨rfl, hP1⟩; obtain ⟨V1, hX1⟩ := hX0.txStep hk2 hP1
                    (try go_wp2_with fail)
                    refine hkC.out _ _ (⟨⟨hX1.cX hk2, hX1.cY hk2⟩, trivial⟩) (fun hHeld => ?_)
                    clear hkC kC
                    try simp only [Act.put, List.setIfInBounds_toArray, List.set_cons_zero, List.set_cons_succ]
                    refine wpAnyH_ready (rs := [7]) (by kernel_rfl) (by simp) ?_
                    refine AllReadyH.cons (by simp only [List.getElem?_toArray, List.getElem?_cons_succ, List.getElem?_cons_zero]; rfl) (fun kC hkC => ?_) AllReadyH.nil
                    go_simp
                    refine (dBegin_any (hX1.dxx hk2)).mono ?_; rw [HSR.out.1]; rintro e w6 ⟨rfl, hP2⟩; obtain ⟨V2, hX2⟩ := hX1.dxStep hk2 hP2
                    (try go_wp2_with fail)
                    refine hkC.out _ _ (⟨⟨hX2.cX hk2, hX2.cY hk2⟩, trivial⟩) (fun hHeld => ?_)
                    clear hkC kC
                    try simp only [Act.put, List.setIfInBounds_toArray, List.set_cons_zero, List.set_cons_succ]
                    refine wpAnyH_take (i := 8) (v := ?_) (by simp only [List.getElem?_toArray, List.getElem?_cons_succ, List.getElem?_cons_zero]; rfl) (by kernel_rfl) (by kernel_rfl) (by kernel_rfl) (by exact fun _ _ _ h => h) (Or.inl ⟨by rfl, ?_⟩) hHeld ?_
                    rotate_left
                    · intro w hSw; (try dsimp only at hSw); go_simp; (try with_reducible rfl)
                    try simp only [Act.put, List.setIfInBounds_toArray, List.set_cons_zero, List.set_cons_succ]
                    refine wpAnyH_take (i := 9) (v := ?_) (by simp only [List.getElem?_toArray, List.getElem?_cons_succ, List.getElem?_cons_zero]; rfl) (by kernel_rfl) (by kernel_rfl) (by kernel_rfl) (by exact fun _ _ _ h => h) (Or.inl ⟨by rfl, ?_⟩) hHeld ?_
                    rotate_left
                    · intro w hSw; (try dsimp only at hSw); go_simp; (try with_reducible rfl)
                    try simp only [Act.put, List.setIfInBounds_toArray, List.set_cons_zero, List.set_cons_succ]
                    refine wpAnyH_done (by kernel_rfl) ?_ _
                    clear hHeld
                    go_wp2_with fail
                    go_meet
                    exact ⟨V2, _, _, _, rfl, rfl, hX2, HSR.out.2, (HI.out.ti k hk2).begin, beginD_i _ (HI.out.di k hk2)⟩
                · have eA : (A == 0) = false := by simpa using hA0
                  obtain ⟨pk, capk, hsl, _, hcp0⟩ := HIN.out k hk2
                  rw [HNL.out] at hsl hcp0
                  have cP := HX.out.cP hk2
                  rw [hsl] at cP
                  by_cases hgt : (n k : Int) < A
                  · have e26 : decide ((n k : Int) < A) = true := decide_eq_true hgt
                    clear hcp0 hsl
                    as_aux_lemma =>
                      have HSR := Lib.hid (sim_commit (HI.out.sim k hk2))
                      go_upto_region 26 with fail
                      go_quiet (fail)
                      go_upto_region 27 with fail
                      have hX0 := (HX.out.no ((Keeps.refl NoS wc).drewN nq)).no ((Keeps.refl NoS _).drew)
                      refine wp_region_held_drew (S := (fun w' => (w'.cell? ⟨P.XA, k, none⟩ = some (.pointer (some ⟨P.X k, 0, none⟩)) ∧ w'.cell? ⟨P.YA, k, none⟩ = some (.pointer (some ⟨P.Y k, 0, none⟩))) ∧ True)) (by kernel_rfl) (⟨⟨hX0.cX hk2, hX0.cY hk2⟩, trivial⟩) (fun hHeld => ?_)
                      refine wpAnyH_take (i := 0) (v := ?_) (by simp only [List.getElem?_toArray, List.getElem?_cons_succ, List.getElem?_cons_zero]; rfl) (by kernel_rfl) (by kernel_rfl) (by kernel_rfl) (by exact fun _ _ _ h => h) (Or.inl ⟨by rfl, ?_⟩) hHeld ?_
                      rotate_left
                      · intro w hSw; (try dsimp only at hSw); go_simp; (try with_reducible rfl)
                      try simp only [Act.put, List.setIfInBounds_toArray, List.set_cons_zero, List.set_cons_succ]
                      refine wpAnyH_take (i := 1) (v := ?_) (by simp only [List.getElem?_toArray, List.getElem?_cons_succ, List.getElem?_cons_zero]; rfl) (by kernel_rfl) (by kernel_rfl) (by kernel_rfl) (by exact fun _ _ _ h => h) (Or.inl ⟨by rfl, ?_⟩) hHeld ?_
                      rotate_left
                      · intro w hSw; (try dsimp only at hSw); go_simp; (try with_reducible rfl)
                      try simp only [Act.put, List.setIfInBounds_toArray, List.set_cons_zero, List.set_cons_succ]
                      refine wpAnyH_take (i := 2) (v := ?_) (by simp only [List.getElem?_toArray, List.getElem?_cons_succ, List.getElem?_cons_zero]; rfl) (by kernel_rfl) (by kernel_rfl) (by kernel_rfl) (by exact fun _ _ _ h => h) (Or.inl ⟨by rfl, ?_⟩) hHeld ?_
                      rotate_left
                      · intro w hSw; (try dsimp only at hSw); go_simp; (try with_reducible rfl)
                      try simp only [Act.put, List.setIfInBounds_toArray, List.set_cons_zero, List.set_cons_succ]
                      refine wpAnyH_take (i := 4) (v := ?_) (by simp only [List.getElem?_toArray, List.getElem?_cons_succ, List.getElem?_cons_zero]; rfl) (by kernel_rfl) (by kernel_rfl) (by kernel_rfl) (by exact fun _ _ _ h => h) (Or.inl ⟨by rfl, ?_⟩) hHeld ?_
                      rotate_left
                      · intro w hSw; (try dsimp only at hSw); go_simp; (try with_reducible rfl)
                      try simp only [Act.put, List.setIfInBounds_toArray, List.set_cons_zero, List.set_cons_succ]
                      refine wpAnyH_take (i := 5) (v := ?_) (by simp only [List.getElem?_toArray, List.getElem?_cons_succ, List.getElem?_cons_zero]; rfl) (by kernel_rfl) (by kernel_rfl) (by kernel_rfl) (by exact fun _ _ _ h => h) (Or.inl ⟨by rfl, ?_⟩) hHeld ?_
                      rotate_left
                      · intro w hSw; (try dsimp only at hSw); go_simp; (try with_reducible rfl)
                      try simp only [Act.put, List.setIfInBounds_toArray, List.set_cons_zero, List.set_cons_succ]
                      refine wpAnyH_take (i := 6) (v := ?_) (by simp only [List.getElem?_toArray, List.getElem?_cons_succ, List.getElem?_cons_zero]; rfl) (by kernel_rfl) (by kernel_rfl) (by kernel_rfl) (by exact fun _ _ _ h => h) (Or.inl ⟨by rfl, ?_⟩) hHeld ?_
                      rotate_left
                      · intro w hSw; (try dsimp only at hSw); go_simp; (try with_reducible rfl)
                      try simp only [Act.put, List.setIfInBounds_toArray, List.set_cons_zero, List.set_cons_succ]
                      refine wpAnyH_ready (rs := [3]) (by kernel_rfl) (by simp) ?_
                      refine AllReadyH.cons (by simp only [List.getElem?_toArray, List.getElem?_cons_succ, List.getElem?_cons_zero]; rfl) (fun kC hkC => ?_) AllReadyH.nil
                      go_simp
                      refine (xCommit_any (hX0.nx hk2)).mono ?_; rintro e w5 ⟨rfl, hN1, hP1⟩; obtain ⟨V1, hX1⟩ := hX0.txStep hk2 ((hX0.nx hk2).kx hP1 hN1)
                      (try go_wp2_with fail)
                      refine hkC.out _ _ (⟨⟨hX1.cX hk2, hX1.cY hk2⟩, trivial⟩) (fun hHeld => ?_)
                      clear hkC kC
                      try simp only [Act.put, List.setIfInBounds_toArray, List.set_cons_zero, List.set_cons_succ]
                      refine wpAnyH_ready (rs := [7]) (by kernel_rfl) (by simp) ?_
                      refine AllReadyH.cons (by simp only [List.getElem?_toArray, List.getElem?_cons_succ, List.getElem?_cons_zero]; rfl) (fun kC hkC => ?_) AllReadyH.nil
                      go_simp
                      refine (dCommit_any (hX1.dxx hk2)).mono ?_; rw [HSR.out.1]; rintro e w6 ⟨rfl, hP2⟩; obtain ⟨V2, hX2⟩ := hX1.dxStep hk2 hP2
                      (try go_wp2_with fail)
                      refine hkC.out _ _ (⟨⟨hX2.cX hk2, hX2.cY hk2⟩, trivial⟩) (fun hHeld => ?_)
                      clear hkC kC
                      try simp only [Act.put, List.setIfInBounds_toArray, List.set_cons_zero, List.set_cons_succ]
                      refine wpAnyH_take (i := 8) (v := ?_) (by simp only [List.getElem?_toArray, List.getElem?_cons_succ, List.getElem?_cons_zero]; rfl) (by kernel_rfl) (by kernel_rfl) (by kernel_rfl) (by exact fun _ _ _ h => h) (Or.inl ⟨by rfl, ?_⟩) hHeld ?_
                      rotate_left
                      · intro w hSw; (try dsimp only at hSw); go_simp; (try with_reducible rfl)
                      try simp only [Act.put, List.setIfInBounds_toArray, List.set_cons_zero, List.set_cons_succ]
                      refine wpAnyH_take (i := 9) (v := ?_) (by simp only [List.getElem?_toArray, List.getElem?_cons_succ, List.getElem?_cons_zero]; rfl) (by kernel_rfl) (by kernel_rfl) (by kernel_rfl) (by exact fun _ _ _ h => h) (Or.inl ⟨by rfl, ?_⟩) hHeld ?_
                      rotate_left
                      · intro w hSw; (try dsimp only at hSw); go_simp; (try with_reducible rfl)
                      try simp only [Act.put, List.setIfInBounds_toArray, List.set_cons_zero, List.set_cons_succ]
                      refine wpAnyH_done (by kernel_rfl) ?_ _
                      clear hHeld
                      go_wp2_with fail
                      go_meet
                      exact ⟨V2, _, _, _, rfl, rfl, hX2, HSR.out.2, (HI.out.ti k hk2).commitAsk, commitD_i _ (HI.out.di k hk2)⟩
                  · 
                    obtain ⟨m, hm⟩ : ∃ m : Nat, A = (m : Int) + 1 := ⟨(A - 1).toNat, by omega⟩
                    subst hm
                    have hml : m < n k := by omega
                    have e26 : decide ((n k : Int) < (m : Int) + 1) = false := decide_eq_false (by omega)
                    have hws : IntKind.i64.wrap (m : Int) = (m : Int) := IntWalk.i64_in _ (by omega)
                    have m0' : (0 : Int) ≤ (m : Int) := by omega
                    have m1' : (m : Int) < (n k : Int) := by omega
                    obtain ⟨b', off', hpb, hcp⟩ := hcp0 (by omega)
                    have hop := hcp m hml
                    obtain ⟨z0, hz0⟩ : ∃ z, (Lf k).F m 0 = z := ⟨_, rfl⟩
                    obtain ⟨z1, hz1⟩ : ∃ z, (Lf k).F m 1 = z := ⟨_, rfl⟩
                    obtain ⟨z2, hz2⟩ : ∃ z, (Lf k).F m 2 = z := ⟨_, rfl⟩
                    have HOP := Lib.hid (show ∀ w', Keeps NoS w w' → w'.cell? ⟨b', off' + m * 3, none⟩ = some (.int .i64 z0) ∧ w'.cell? ⟨b', off' + m * 3 + 1, none⟩ = some (.int .i64 z1) ∧ w'.cell? ⟨b', off' + m * 3 + 2, none⟩ = some (.int .i64 z2) from fun w' kk => ⟨by rw [← hz0]; exact kk.cell (hop 0 (by decide)).1 (fun f => f), by rw [← hz1]; exact kk.cell (hop 1 (by decide)).1 (fun f => f), by rw [← hz2]; exact kk.cell (hop 2 (by decide)).1 (fun f => f)⟩)
                    rw [hpb] at cP hsl
                    have HCP := Lib.hid hsl
                    clear hcp0 hcp hop hz0 hz1 hz2 hpb hsl
                    have HDD := Lib.hid (dA_is (atZ z1) (atZ_bd z1).1 (atZ_bd z1).2)
                    have HSM := Lib.hid (And.intro (by rw [(HI.out.sim k hk2).R]; exact (HI.out.sim k hk2).rl : (d k).R.length ≤ 32) (by rw [(HI.out.sim k hk2).W]; exact (HI.out.sim k hk2).wl : (d k).W.length ≤ 32))
                    go_upto_region 26 with fail
                    go_quiet (fail)
                    go_upto_region 19 with fail
                    have hkq : Keeps NoS wc (wc.drewN nq) := (Keeps.refl NoS wc).drewN nq
                    generalize wc.drewN nq = wq at *
                    have HS := Lib.hid (show ∀ w', Keeps NoS wc w' → w'.cell? ⟨P.PL, k, none⟩ = some (.slice (some ⟨b', off', none⟩) (n k) capk) ∧ w'.cell? ⟨P.EA, k, none⟩ = some (.int .i64 ((m : Int) + 1)) ∧ w'.cell? ⟨b', off' + m * 3, none⟩ = some (.int .i64 z0) ∧ w'.cell? ⟨b', off' + m * 3 + 1, none⟩ = some (.int .i64 z1) ∧ w'.cell? ⟨b', off' + m * 3 + 2, none⟩ = some (.int .i64 z2) from fun w' kk => ⟨kk.cell cP (fun f => f), kk.cell cA (fun f => f), HOP.out _ (HX.out.kp.trans kk)⟩)
                    have hkd := hkq.drew
                    clear cP cA fA lA
                    refine wp_region_held_drew (S := (fun w' => w'.cell? ⟨P.PL, k, none⟩ = some (.slice (some ⟨b', off', none⟩) (n k) capk) ∧ w'.cell? ⟨P.EA, k, none⟩ = some (.int .i64 ((m : Int) + 1)) ∧ w'.cell? ⟨b', off' + m * 3, none⟩ = some (.int .i64 z0) ∧ w'.cell? ⟨b', off' + m * 3 + 1, none⟩ = some (.int .i64 z1) ∧ w'.cell? ⟨b', off' + m * 3 + 2, none⟩ = some (.int .i64 z2))) (by kernel_rfl) ((HS.out _ hkd)) (fun hHeld => ?_)
                    refine wpAnyH_take (i := 0) (v := ?_) (by simp only [List.getElem?_toArray, List.getElem?_cons_succ, List.getElem?_cons_zero]; rfl) (by kernel_rfl) (by kernel_rfl) (by kernel_rfl) (by exact fun _ _ _ h => h) (Or.inl ⟨by rfl, ?_⟩) hHeld ?_
                    rotate_left
                    · intro w hSw; (try dsimp only at hSw); go_simp; (try with_reducible rfl)
                    try simp only [Act.put, List.setIfInBounds_toArray, List.set_cons_zero, List.set_cons_succ, hws]
                    refine wpAnyH_take (i := 1) (v := ?_) (by simp only [List.getElem?_toArray, List.getElem?_cons_succ, List.getElem?_cons_zero]; rfl) (by kernel_rfl) (by kernel_rfl) (by kernel_rfl) (by exact fun _ _ _ h => h) (Or.inl ⟨by rfl, ?_⟩) hHeld ?_
                    rotate_left
                    · intro w hSw; (try dsimp only at hSw); go_simp; (try with_reducible rfl)
                    try simp only [Act.put, List.setIfInBounds_toArray, List.set_cons_zero, List.set_cons_succ, hws]
                    refine wpAnyH_take (i := 2) (v := ?_) (by simp only [List.getElem?_toArray, List.getElem?_cons_succ, List.getElem?_cons_zero]; rfl) (by kernel_rfl) (by kernel_rfl) (by kernel_rfl) (by exact fun _ _ _ h => h) (Or.inl ⟨by rfl, ?_⟩) hHeld ?_
                    rotate_left
                    · intro w hSw; (try dsimp only at hSw); go_simp; (try with_reducible rfl)
                    try simp only [Act.put, List.setIfInBounds_toArray, List.set_cons_zero, List.set_cons_succ, hws]
                    refine wpAnyH_take (i := 3) (v := ?_) (by simp only [List.getElem?_toArray, List.getElem?_cons_succ, List.getElem?_cons_zero]; rfl) (by kernel_rfl) (by kernel_rfl) (by kernel_rfl) (by exact fun _ _ _ h => h) (Or.inl ⟨by rfl, ?_⟩) hHeld ?_
                    rotate_left
                    · intro w hSw; (try dsimp only at hSw); go_simp; (try with_reducible rfl)
                    try simp only [Act.put, List.setIfInBounds_toArray, List.set_cons_zero, List.set_cons_succ, hws]
                    refine wpAnyH_take (i := 4) (v := ?_) (by simp only [List.getElem?_toArray, List.getElem?_cons_succ, List.getElem?_cons_zero]; rfl) (by kernel_rfl) (by kernel_rfl) (by kernel_rfl) (by exact fun _ _ _ h => h) (Or.inl ⟨by rfl, ?_⟩) hHeld ?_
                    rotate_left
                    · intro w hSw; (try dsimp only at hSw); go_simp; (try with_reducible rfl)
                    try simp only [Act.put, List.setIfInBounds_toArray, List.set_cons_zero, List.set_cons_succ, hws]
                    refine wpAnyH_take (i := 5) (v := ?_) (by simp only [List.getElem?_toArray, List.getElem?_cons_succ, List.getElem?_cons_zero]; rfl) (by kernel_rfl) (by kernel_rfl) (by kernel_rfl) (by exact fun _ _ _ h => h) (Or.inl ⟨by rfl, ?_⟩) hHeld ?_
                    rotate_left
                    · intro w hSw; (try dsimp only at hSw); go_simp; (try with_reducible rfl)
                    try simp only [Act.put, List.setIfInBounds_toArray, List.set_cons_zero, List.set_cons_succ, hws]
                    refine wpAnyH_take (i := 6) (v := ?_) (by simp only [List.getElem?_toArray, List.getElem?_cons_succ, List.getElem?_cons_zero]; rfl) (by kernel_rfl) (by kernel_rfl) (by kernel_rfl) (by exact fun _ _ _ h => h) (Or.inl ⟨by rfl, ?_⟩) hHeld ?_
                    rotate_left
                    · intro w hSw; (try dsimp only at hSw); go_simp; (try with_reducible rfl)
                    try simp only [Act.put, List.setIfInBounds_toArray, List.set_cons_zero, List.set_cons_succ, hws]
                    refine wpAnyH_take (i := 7) (v := ?_) (by simp only [List.getElem?_toArray, List.getElem?_cons_succ, List.getElem?_cons_zero]; rfl) (by kernel_rfl) (by kernel_rfl) (by kernel_rfl) (by exact fun _ _ _ h => h) (Or.inl ⟨by rfl, ?_⟩) hHeld ?_
                    rotate_left
                    · intro w hSw; (try dsimp only at hSw); go_simp; (try with_reducible rfl)
                    try simp only [Act.put, List.setIfInBounds_toArray, List.set_cons_zero, List.set_cons_succ, hws]
                    refine wpAnyH_take (i := 8) (v := ?_) (by simp only [List.getElem?_toArray, List.getElem?_cons_succ, List.getElem?_cons_zero]; rfl) (by kernel_rfl) (by kernel_rfl) (by kernel_rfl) (by exact fun _ _ _ h => h) (Or.inl ⟨by rfl, ?_⟩) hHeld ?_
                    rotate_left
                    · intro w hSw; (try dsimp only at hSw); go_simp; (try with_reducible rfl)
                    try simp only [Act.put, List.setIfInBounds_toArray, List.set_cons_zero, List.set_cons_succ, hws]
                    refine wpAnyH_ready (rs := [9]) (by kernel_rfl) (by simp) ?_
                    refine AllReadyH.cons (by simp only [List.getElem?_toArray, List.getElem?_cons_succ, List.getElem?_cons_zero]; rfl) (fun kC hkC => ?_) AllReadyH.nil
                    go_simp
                    refine hkC.out _ _ ((HS.out _ (hkd.alloc _))) (fun hHeld => ?_)
                    clear hkC kC
                    try simp only [Act.put, List.setIfInBounds_toArray, List.set_cons_zero, List.set_cons_succ, hws]
                    refine wpAnyH_ready (rs := [10]) (by kernel_rfl) (by simp) ?_
                    refine AllReadyH.cons (by simp only [List.getElem?_toArray, List.getElem?_cons_succ, List.getElem?_cons_zero]; rfl) (fun kC hkC => ?_) AllReadyH.nil
                    go_simp
                    refine hkC.out _ _ ((HS.out _ (hkd.alloc _))) (fun hHeld => ?_)
                    clear hkC kC
                    try simp only [Act.put, List.setIfInBounds_toArray, List.set_cons_zero, List.set_cons_succ, hws]
                    refine wpAnyH_done (by kernel_rfl) ?_ _
                    clear hHeld hws
                    obtain ⟨O, hO⟩ : ∃ O, wq.heap.size = O := ⟨_, rfl⟩
                    have hb0 : (wq.alloc (.cells #[.int .i64 z0, .int .i64 z1, .int .i64 z2] 43)).drew.heap[wq.heap.size]? = some (.cells #[.int .i64 z0, .int .i64 z1, .int .i64 z2] 43 (0, 0)) := heap_alloc_new _ _
                    have hkA : Keeps NoS wc (wq.alloc (.cells #[.int .i64 z0, .int .i64 z1, .int .i64 z2] 43)).drew := (hkq.alloc _).drew
                    have HOO := Lib.hid (show ∀ i, ¬ ownW P V i O from fun i e => by have := HX.out.hi i O e; have := hkq.size; omega)
                    (try rw [hO])
                    rw [hO] at hb0
                    generalize (wq.alloc (.cells #[.int .i64 z0, .int .i64 z1, .int .i64 z2] 43)).drew = wA at *
                    have b0x : wA.cell? ⟨O, 0, none⟩ = some (.int .i64 z0) := by rw [blk_cell hb0]; rfl
                    have b1 : wA.cell? ⟨O, 1, none⟩ = some (.int .i64 z1) := by rw [blk_cell hb0]; rfl
                    have b2 : wA.cell? ⟨O, 2, none⟩ = some (.int .i64 z2) := by rw [blk_cell hb0]; rfl
                    have hOl : O < wA.heap.size := blk_lt hb0
                    have hXA := HX.out.no hkA
                    obtain ⟨m0, m1, m2, m3, m4⟩ := hXA.mb
                    have hBl := hXA.hi .fx P.B (.inr (.inr (.inr rfl)))
                    have HQ1 := Lib.hid (show wrap64 ((IntKind.u64.wrap z1).tmod 4) = atZ z1 by
                      obtain ⟨q1, q2⟩ := u64_tmod_bd z1 4 (by omega)
                      unfold atZ
                      rw [wrap64_id (by omega) (by omega), IntWalk.i64_in _ (by omega)])
                    clear hb0 hO hkd
                    go_upto_region 21 with (go_at_call 13; (try rw [HQ1.out]); refine (dataAt_lit 3 1 3 0 4 (atZ z1) (dA (atZ z1)) rfl _).mono ?_; rintro e wD ⟨rfl, hkD⟩)
                    have hXD := hXA.no hkD
                    replace b0x := hkD.cell b0x (fun f => f)
                    replace b2 := hkD.cell b2 (fun f => f)
                    have hOl2 : O < wD.heap.size := Nat.lt_of_lt_of_le hOl hkD.size
                    clear m0 m1 m2 m3 m4 hBl b1 hOl hkA hkD hkq hXA
                    by_cases hkz : (IntKind.u64.wrap z0).tmod 2 = 0
                    · have ekz : ((IntKind.u64.wrap z0).tmod 2 == 0) = true := by simpa using hkz
                      clear hkz
                      as_aux_lemma =>
                        have HSR := Lib.hid (sim_read (HI.out.sim k hk2) HDD.out)
                        go_upto_region 22 with fail
                        have hX0 := hXD.no ((Keeps.refl NoS wD).drew)
                        refine wp_region_held_drew (S := (fun w' => (w'.cell? ⟨P.XA, k, none⟩ = some (.pointer (some ⟨P.X k, 0, none⟩)) ∧ w'.cell? ⟨P.YA, k, none⟩ = some (.pointer (some ⟨P.Y k, 0, none⟩))) ∧ True)) (by kernel_rfl) (⟨⟨hX0.cX hk2, hX0.cY hk2⟩, trivial⟩) (fun hHeld => ?_)
                        refine wpAnyH_take (i := 0) (v := ?_) (by simp only [List.getElem?_toArray, List.getElem?_cons_succ, List.getElem?_cons_zero]; rfl) (by kernel_rfl) (by kernel_rfl) (by kernel_rfl) (by exact fun _ _ _ h => h) (Or.inl ⟨by rfl, ?_⟩) hHeld ?_
                        rotate_left
                        · intro w hSw; (try dsimp only at hSw); go_simp; (try with_reducible rfl)
                        try simp only [Act.put, List.setIfInBounds_toArray, List.set_cons_zero, List.set_cons_succ]
                        refine wpAnyH_take (i := 1) (v := ?_) (by simp only [List.getElem?_toArray, List.getElem?_cons_succ, List.getElem?_cons_zero]; rfl) (by kernel_rfl) (by kernel_rfl) (by kernel_rfl) (by exact fun _ _ _ h => h) (Or.inl ⟨by rfl, ?_⟩) hHeld ?_
                        rotate_left
                        · intro w hSw; (try dsimp only at hSw); go_simp; (try with_reducible rfl)
                        try simp only [Act.put, List.setIfInBounds_toArray, List.set_cons_zero, List.set_cons_succ]
                        refine wpAnyH_take (i := 2) (v := ?_) (by simp only [List.getElem?_toArray, List.getElem?_cons_succ, List.getElem?_cons_zero]; rfl) (by kernel_rfl) (by kernel_rfl) (by kernel_rfl) (by exact fun _ _ _ h => h) (Or.inl ⟨by rfl, ?_⟩) hHeld ?_
                        rotate_left
                        · intro w hSw; (try dsimp only at hSw); go_simp; (try with_reducible rfl)
                        try simp only [Act.put, List.setIfInBounds_toArray, List.set_cons_zero, List.set_cons_succ]
                        refine wpAnyH_take (i := 3) (v := ?_) (by simp only [List.getElem?_toArray, List.getElem?_cons_succ, List.getElem?_cons_zero]; rfl) (by kernel_rfl) (by kernel_rfl) (by kernel_rfl) (by exact fun _ _ _ h => h) (Or.inl ⟨by rfl, ?_⟩) hHeld ?_
                        rotate_left
                        · intro w hSw; (try dsimp only at hSw); go_simp; (try with_reducible rfl)
                        try simp only [Act.put, List.setIfInBounds_toArray, List.set_cons_zero, List.set_cons_succ]
                        refine wpAnyH_take (i := 5) (v := ?_) (by simp only [List.getElem?_toArray, List.getElem?_cons_succ, List.getElem?_cons_zero]; rfl) (by kernel_rfl) (by kernel_rfl) (by kernel_rfl) (by exact fun _ _ _ h => h) (Or.inl ⟨by rfl, ?_⟩) hHeld ?_
                        rotate_left
                        · intro w hSw; (try dsimp only at hSw); go_simp; (try with_reducible rfl)
                        try simp only [Act.put, List.setIfInBounds_toArray, List.set_cons_zero, List.set_cons_succ]
                        refine wpAnyH_take (i := 6) (v := ?_) (by simp only [List.getElem?_toArray, List.getElem?_cons_succ, List.getElem?_cons_zero]; rfl) (by kernel_rfl) (by kernel_rfl) (by kernel_rfl) (by exact fun _ _ _ h => h) (Or.inl ⟨by rfl, ?_⟩) hHeld ?_
                        rotate_left
                        · intro w hSw; (try dsimp only at hSw); go_simp; (try with_reducible rfl)
                        try simp only [Act.put, List.setIfInBounds_toArray, List.set_cons_zero, List.set_cons_succ]
                        refine wpAnyH_take (i := 7) (v := ?_) (by simp only [List.getElem?_toArray, List.getElem?_cons_succ, List.getElem?_cons_zero]; rfl) (by kernel_rfl) (by kernel_rfl) (by kernel_rfl) (by exact fun _ _ _ h => h) (Or.inl ⟨by rfl, ?_⟩) hHeld ?_
                        rotate_left
                        · intro w hSw; (try dsimp only at hSw); go_simp; (try with_reducible rfl)
                        try simp only [Act.put, List.setIfInBounds_toArray, List.set_cons_zero, List.set_cons_succ]
                        refine wpAnyH_take (i := 8) (v := ?_) (by simp only [List.getElem?_toArray, List.getElem?_cons_succ, List.getElem?_cons_zero]; rfl) (by kernel_rfl) (by kernel_rfl) (by kernel_rfl) (by exact fun _ _ _ h => h) (Or.inl ⟨by rfl, ?_⟩) hHeld ?_
                        rotate_left
                        · intro w hSw; (try dsimp only at hSw); go_simp; (try with_reducible rfl)
                        try simp only [Act.put, List.setIfInBounds_toArray, List.set_cons_zero, List.set_cons_succ]
                        refine wpAnyH_ready (rs := [4]) (by kernel_rfl) (by simp) ?_
                        refine AllReadyH.cons (by simp only [List.getElem?_toArray, List.getElem?_cons_succ, List.getElem?_cons_zero]; rfl) (fun kC hkC => ?_) AllReadyH.nil
                        go_simp
                        refine (xRead_any (hX0.nx hk2) (dA (atZ z1))).mono ?_; rintro e w5 ⟨rfl, hP1⟩; obtain ⟨V1, hX1⟩ := hX0.txStep hk2 hP1
                        (try go_wp2_with fail)
                        refine hkC.out _ _ (⟨⟨hX1.cX hk2, hX1.cY hk2⟩, trivial⟩) (fun hHeld => ?_)
                        clear hkC kC
                        try simp only [Act.put, List.setIfInBounds_toArray, List.set_cons_zero, List.set_cons_succ]
                        refine wpAnyH_ready (rs := [9]) (by kernel_rfl) (by simp) ?_
                        refine AllReadyH.cons (by simp only [List.getElem?_toArray, List.getElem?_cons_succ, List.getElem?_cons_zero]; rfl) (fun kC hkC => ?_) AllReadyH.nil
                        go_simp
                        refine (dRead_any (hX1.dxx hk2) (dA (atZ z1)) HSM.out.1 HSM.out.2).mono ?_; rw [HSR.out.1]; rintro e w6 ⟨rfl, hP2⟩; obtain ⟨V2, hX2⟩ := hX1.dxStep hk2 hP2
                        (try go_wp2_with fail)
                        refine hkC.out _ _ (⟨⟨hX2.cX hk2, hX2.cY hk2⟩, trivial⟩) (fun hHeld => ?_)
                        clear hkC kC
                        try simp only [Act.put, List.setIfInBounds_toArray, List.set_cons_zero, List.set_cons_succ]
                        refine wpAnyH_take (i := 10) (v := ?_) (by simp only [List.getElem?_toArray, List.getElem?_cons_succ, List.getElem?_cons_zero]; rfl) (by kernel_rfl) (by kernel_rfl) (by kernel_rfl) (by exact fun _ _ _ h => h) (Or.inl ⟨by rfl, ?_⟩) hHeld ?_
                        rotate_left
                        · intro w hSw; (try dsimp only at hSw); go_simp; (try with_reducible rfl)
                        try simp only [Act.put, List.setIfInBounds_toArray, List.set_cons_zero, List.set_cons_succ]
                        refine wpAnyH_take (i := 11) (v := ?_) (by simp only [List.getElem?_toArray, List.getElem?_cons_succ, List.getElem?_cons_zero]; rfl) (by kernel_rfl) (by kernel_rfl) (by kernel_rfl) (by exact fun _ _ _ h => h) (Or.inl ⟨by rfl, ?_⟩) hHeld ?_
                        rotate_left
                        · intro w hSw; (try dsimp only at hSw); go_simp; (try with_reducible rfl)
                        try simp only [Act.put, List.setIfInBounds_toArray, List.set_cons_zero, List.set_cons_succ]
                        refine wpAnyH_done (by kernel_rfl) ?_ _
                        clear hHeld
                        go_wp2_with fail
                        go_meet
                        exact ⟨V2, _, _, _, rfl, rfl, hX2, HSR.out.2, (HI.out.ti k hk2).read _, readD_i _ _ (HI.out.di k hk2)⟩
                    · have ekz : ((IntKind.u64.wrap z0).tmod 2 == 0) = false := by simpa using hkz
                      clear hkz
                      as_aux_lemma =>
                        have HSR := Lib.hid (sim_write (HI.out.sim k hk2) HDD.out z2)
                        go_upto_region 23 with fail
                        have hX0 := hXD.no ((Keeps.refl NoS wD).drew)
                        have ho0 : wD.drew.cell? ⟨O, 2, none⟩ = some (.int .i64 z2) := b2
                        refine wp_region_held_drew (S := (fun w' => (w'.cell? ⟨P.XA, k, none⟩ = some (.pointer (some ⟨P.X k, 0, none⟩)) ∧ w'.cell? ⟨P.YA, k, none⟩ = some (.pointer (some ⟨P.Y k, 0, none⟩))) ∧ w'.cell? ⟨O, 2, none⟩ = some (.int .i64 z2))) (by kernel_rfl) (⟨⟨hX0.cX hk2, hX0.cY hk2⟩, ho0⟩) (fun hHeld => ?_)
                        refine wpAnyH_take (i := 0) (v := ?_) (by simp only [List.getElem?_toArray, List.getElem?_cons_succ, List.getElem?_cons_zero]; rfl) (by kernel_rfl) (by kernel_rfl) (by kernel_rfl) (by exact fun _ _ _ h => h) (Or.inl ⟨by rfl, ?_⟩) hHeld ?_
                        rotate_left
                        · intro w hSw; (try dsimp only at hSw); go_simp; (try with_reducible rfl)
                        try simp only [Act.put, List.setIfInBounds_toArray, List.set_cons_zero, List.set_cons_succ]
                        refine wpAnyH_take (i := 1) (v := ?_) (by simp only [List.getElem?_toArray, List.getElem?_cons_succ, List.getElem?_cons_zero]; rfl) (by kernel_rfl) (by kernel_rfl) (by kernel_rfl) (by exact fun _ _ _ h => h) (Or.inl ⟨by rfl, ?_⟩) hHeld ?_
                        rotate_left
                        · intro w hSw; (try dsimp only at hSw); go_simp; (try with_reducible rfl)
                        try simp only [Act.put, List.setIfInBounds_toArray, List.set_cons_zero, List.set_cons_succ]
                        refine wpAnyH_take (i := 2) (v := ?_) (by simp only [List.getElem?_toArray, List.getElem?_cons_succ, List.getElem?_cons_zero]; rfl) (by kernel_rfl) (by kernel_rfl) (by kernel_rfl) (by exact fun _ _ _ h => h) (Or.inl ⟨by rfl, ?_⟩) hHeld ?_
                        rotate_left
                        · intro w hSw; (try dsimp only at hSw); go_simp; (try with_reducible rfl)
                        try simp only [Act.put, List.setIfInBounds_toArray, List.set_cons_zero, List.set_cons_succ]
                        refine wpAnyH_take (i := 3) (v := ?_) (by simp only [List.getElem?_toArray, List.getElem?_cons_succ, List.getElem?_cons_zero]; rfl) (by kernel_rfl) (by kernel_rfl) (by kernel_rfl) (by exact fun _ _ _ h => h) (Or.inl ⟨by rfl, ?_⟩) hHeld ?_
                        rotate_left
                        · intro w hSw; (try dsimp only at hSw); go_simp; (try with_reducible rfl)
                        try simp only [Act.put, List.setIfInBounds_toArray, List.set_cons_zero, List.set_cons_succ]
                        refine wpAnyH_take (i := 4) (v := ?_) (by simp only [List.getElem?_toArray, List.getElem?_cons_succ, List.getElem?_cons_zero]; rfl) (by kernel_rfl) (by kernel_rfl) (by kernel_rfl) (by exact fun _ _ _ h => h) (Or.inl ⟨by rfl, ?_⟩) hHeld ?_
                        rotate_left
                        · intro w hSw; (try dsimp only at hSw); go_simp; (try with_reducible rfl)
                        try simp only [Act.put, List.setIfInBounds_toArray, List.set_cons_zero, List.set_cons_succ]
                        refine wpAnyH_take (i := 5) (v := ?_) (by simp only [List.getElem?_toArray, List.getElem?_cons_succ, List.getElem?_cons_zero]; rfl) (by kernel_rfl) (by kernel_rfl) (by kernel_rfl) (by exact fun _ _ _ h => h) (Or.inl ⟨by rfl, ?_⟩) hHeld ?_
                        rotate_left
                        · intro w hSw; (try dsimp only at hSw); go_simp; (try with_reducible rfl)
                        try simp only [Act.put, List.setIfInBounds_toArray, List.set_cons_zero, List.set_cons_succ]
                        refine wpAnyH_take (i := 7) (v := ?_) (by simp only [List.getElem?_toArray, List.getElem?_cons_succ, List.getElem?_cons_zero]; rfl) (by kernel_rfl) (by kernel_rfl) (by kernel_rfl) (by exact fun _ _ _ h => h) (Or.inl ⟨by rfl, ?_⟩) hHeld ?_
                        rotate_left
                        · intro w hSw; (try dsimp only at hSw); go_simp; (try with_reducible rfl)
                        try simp only [Act.put, List.setIfInBounds_toArray, List.set_cons_zero, List.set_cons_succ]
                        refine wpAnyH_take (i := 8) (v := ?_) (by simp only [List.getElem?_toArray, List.getElem?_cons_succ, List.getElem?_cons_zero]; rfl) (by kernel_rfl) (by kernel_rfl) (by kernel_rfl) (by exact fun _ _ _ h => h) (Or.inl ⟨by rfl, ?_⟩) hHeld ?_
                        rotate_left
                        · intro w hSw; (try dsimp only at hSw); go_simp; (try with_reducible rfl)
                        try simp only [Act.put, List.setIfInBounds_toArray, List.set_cons_zero, List.set_cons_succ]
                        refine wpAnyH_take (i := 9) (v := ?_) (by simp only [List.getElem?_toArray, List.getElem?_cons_succ, List.getElem?_cons_zero]; rfl) (by kernel_rfl) (by kernel_rfl) (by kernel_rfl) (by exact fun _ _ _ h => h) (Or.inl ⟨by rfl, ?_⟩) hHeld ?_
                        rotate_left
                        · intro w hSw; (try dsimp only at hSw); go_simp; (try with_reducible rfl)
                        try simp only [Act.put, List.setIfInBounds_toArray, List.set_cons_zero, List.set_cons_succ]
                        refine wpAnyH_take (i := 10) (v := ?_) (by simp only [List.getElem?_toArray, List.getElem?_cons_succ, List.getElem?_cons_zero]; rfl) (by kernel_rfl) (by kernel_rfl) (by kernel_rfl) (by exact fun _ _ _ h => h) (Or.inl ⟨by rfl, ?_⟩) hHeld ?_
                        rotate_left
                        · intro w hSw; (try dsimp only at hSw); go_simp; (try with_reducible rfl)
                        try simp only [Act.put, List.setIfInBounds_toArray, List.set_cons_zero, List.set_cons_succ]
                        refine wpAnyH_take (i := 11) (v := ?_) (by simp only [List.getElem?_toArray, List.getElem?_cons_succ, List.getElem?_cons_zero]; rfl) (by kernel_rfl) (by kernel_rfl) (by kernel_rfl) (by exact fun _ _ _ h => h) (Or.inl ⟨by rfl, ?_⟩) hHeld ?_
                        rotate_left
                        · intro w hSw; (try dsimp only at hSw); go_simp; (try with_reducible rfl)
                        try simp only [Act.put, List.setIfInBounds_toArray, List.set_cons_zero, List.set_cons_succ]
                        refine wpAnyH_take (i := 12) (v := ?_) (by simp only [List.getElem?_toArray, List.getElem?_cons_succ, List.getElem?_cons_zero]; rfl) (by kernel_rfl) (by kernel_rfl) (by kernel_rfl) (by exact fun _ _ _ h => h) (Or.inl ⟨by rfl, ?_⟩) hHeld ?_
                        rotate_left
                        · intro w hSw; (try dsimp only at hSw); go_simp; (try with_reducible rfl)
                        try simp only [Act.put, List.setIfInBounds_toArray, List.set_cons_zero, List.set_cons_succ]
                        refine wpAnyH_ready (rs := [6]) (by kernel_rfl) (by simp) ?_
                        refine AllReadyH.cons (by simp only [List.getElem?_toArray, List.getElem?_cons_succ, List.getElem?_cons_zero]; rfl) (fun kC hkC => ?_) AllReadyH.nil
                        go_simp
                        refine (xWrite_any (hX0.nx hk2) (dA (atZ z1)) z2 (HI.out.ti k hk2).small).mono ?_; rintro e w5 ⟨rfl, hP1⟩; have hkk : ∃ S, Keeps S wD.drew w5 ∧ ¬ S O := (by obtain ⟨_, _, _, _, hk5, _⟩ := hP1; exact ⟨_, hk5, fun e => e.elim (fun e => HOO.out (.tx k) ⟨hk2, e⟩) (fun e => HOO.out .ma e)⟩); obtain ⟨S, hk5, hSO⟩ := hkk; have ho1 := hk5.cell ho0 hSO; obtain ⟨V1, hX1, hv1, hv2⟩ := hX0.txStep3 hk2 hP1
                        (try go_wp2_with fail)
                        refine hkC.out _ _ (⟨⟨hX1.cX hk2, hX1.cY hk2⟩, ho1⟩) (fun hHeld => ?_)
                        clear hkC kC
                        try simp only [Act.put, List.setIfInBounds_toArray, List.set_cons_zero, List.set_cons_succ]
                        refine wpAnyH_ready (rs := [13]) (by kernel_rfl) (by simp) ?_
                        refine AllReadyH.cons (by simp only [List.getElem?_toArray, List.getElem?_cons_succ, List.getElem?_cons_zero]; rfl) (fun kC hkC => ?_) AllReadyH.nil
                        go_simp
                        refine (dWrite_any (hX1.dxx hk2) (dA (atZ z1)) z2 HSM.out.2).mono ?_; rw [HSR.out.1]; rintro e w6 ⟨rfl, hP2⟩; have hkk : ∃ S, Keeps S w5 w6 ∧ ¬ S O := (by obtain ⟨_, _, _, hk6, _⟩ := hP2; exact ⟨_, hk6, fun e => e.elim (fun e => HOO.out (.dx k) ⟨hk2, by rw [hv1, hv2] at e; exact e⟩) (fun e => HOO.out .mc e)⟩); obtain ⟨S2, hk6, hSO2⟩ := hkk; have ho2 := hk6.cell ho1 hSO2; obtain ⟨V2, hX2⟩ := hX1.dxStep hk2 hP2
                        (try go_wp2_with fail)
                        refine hkC.out _ _ (⟨⟨hX2.cX hk2, hX2.cY hk2⟩, ho2⟩) (fun hHeld => ?_)
                        clear hkC kC
                        try simp only [Act.put, List.setIfInBounds_toArray, List.set_cons_zero, List.set_cons_succ]
                        refine wpAnyH_take (i := 14) (v := ?_) (by simp only [List.getElem?_toArray, List.getElem?_cons_succ, List.getElem?_cons_zero]; rfl) (by kernel_rfl) (by kernel_rfl) (by kernel_rfl) (by exact fun _ _ _ h => h) (Or.inl ⟨by rfl, ?_⟩) hHeld ?_
                        rotate_left
                        · intro w hSw; (try dsimp only at hSw); go_simp; (try with_reducible rfl)
                        try simp only [Act.put, List.setIfInBounds_toArray, List.set_cons_zero, List.set_cons_succ]
                        refine wpAnyH_take (i := 15) (v := ?_) (by simp only [List.getElem?_toArray, List.getElem?_cons_succ, List.getElem?_cons_zero]; rfl) (by kernel_rfl) (by kernel_rfl) (by kernel_rfl) (by exact fun _ _ _ h => h) (Or.inl ⟨by rfl, ?_⟩) hHeld ?_
                        rotate_left
                        · intro w hSw; (try dsimp only at hSw); go_simp; (try with_reducible rfl)
                        try simp only [Act.put, List.setIfInBounds_toArray, List.set_cons_zero, List.set_cons_succ]
                        refine wpAnyH_done (by kernel_rfl) ?_ _
                        clear hHeld
                        go_wp2_with fail
                        go_meet
                        exact ⟨V2, _, _, _, rfl, rfl, hX2, HSR.out.2, (HI.out.ti k hk2).write _ _, writeD_i _ _ _ (HI.out.di k hk2)⟩
              case rest =>
                obtain ⟨V', cc, t1, d1, rfl, rfl, hw1, hs1, ht1, hd1⟩ := hcut
                have HW1 := Lib.hid hw1; have HS1 := Lib.hid hs1; have HT1 := Lib.hid ht1; have HD1 := Lib.hid hd1
                obtain ⟨cA, fA, lA⟩ := hw1.cA hk2
                obtain ⟨cB, fB, lB⟩ := hw1.cB hk2
                rw [HAT.out] at cA
                have hwr : wrap64 (A + 1) = A + 1 := wrap64_id (by omega) (by omega)
                have HWR := Lib.hid hwr
                clear hw1 hs1 ht1 hd1 hwr
                go_upto_region 31 with fail
                have h2 := HW1.out.setB hk2 1
                generalize wc.setCell ⟨P.EB, k, none⟩ (.int .i64 1) = w10 at *
                clear cA fA lA cB fB lB
                obtain ⟨cA, fA, lA⟩ := h2.cA hk2
                rw [HAT.out] at cA
                go_upto_region 32 with fail
                (try rw [HWR.out])
                have h3 := h2.setA hk2 (A + 1)
                generalize w10.setCell ⟨P.EA, k, none⟩ (.int .i64 (A + 1)) = w11 at *
                clear cA fA lA h2
                obtain ⟨cB, fB, lB⟩ := h3.cB hk2
                have HW3 := Lib.hid h3
                clear h3
                by_cases hcz : cc = 0
                · have ec : (cc != 0) = false := by simpa using hcz
                  go_wp2_with fail
                  go_meet
                  exact ⟨V', M, _, _, _, _, HW3.out, HI.out.go HS1.out HT1.out HD1.out HI.out.len ⟨by omega, by omega⟩ (.inr rfl)⟩
                · have ec : (cc != 0) = true := by simpa using hcz
                  go_wp2_with fail
                  go_meet
                  have hfin := HW3.out.setB hk2 0
                  rw [fput_fput] at hfin
                  exact ⟨V', M, _, _, _, _, hfin, HI.out.go HS1.out HT1.out HD1.out HI.out.len ⟨by omega, by omega⟩ (.inl rfl)⟩
          · as_aux_lemma =>
              have eb : (b0 == 0) = false := by simpa using hbz
              have hb1 : b0 = 1 := by have := HI.out.b0 k hk2; rw [HBU.out] at this; exact this.resolve_left hbz
              have HSR0 := Lib.hid (sim_step (HI.out.sim k hk2) M)
              have HSR := Lib.hid (And.intro HSR0.out.2.1 HSR0.out.2.2)
              go_upto_region 34 with fail
              have hX0 := HX.out.no ((Keeps.refl NoS wc).drew)
              refine wp_region_held_drew (S := (fun w' => (w'.cell? ⟨P.XA, k, none⟩ = some (.pointer (some ⟨P.X k, 0, none⟩)) ∧ w'.cell? ⟨P.YA, k, none⟩ = some (.pointer (some ⟨P.Y k, 0, none⟩))) ∧ True)) (by kernel_rfl) (⟨⟨hX0.cX hk2, hX0.cY hk2⟩, trivial⟩) (fun hHeld => ?_)
              refine wpAnyH_take (i := 0) (v := ?_) (by simp only [List.getElem?_toArray, List.getElem?_cons_succ, List.getElem?_cons_zero]; rfl) (by kernel_rfl) (by kernel_rfl) (by kernel_rfl) (by exact fun _ _ _ h => h) (Or.inl ⟨by rfl, ?_⟩) hHeld ?_
              rotate_left
              · intro w hSw; (try dsimp only at hSw); go_simp; (try with_reducible rfl)
              try simp only [Act.put, List.setIfInBounds_toArray, List.set_cons_zero, List.set_cons_succ]
              refine wpAnyH_take (i := 1) (v := ?_) (by simp only [List.getElem?_toArray, List.getElem?_cons_succ, List.getElem?_cons_zero]; rfl) (by kernel_rfl) (by kernel_rfl) (by kernel_rfl) (by exact fun _ _ _ h => h) (Or.inl ⟨by rfl, ?_⟩) hHeld ?_
              rotate_left
              · intro w hSw; (try dsimp only at hSw); go_simp; (try with_reducible rfl)
              try simp only [Act.put, List.setIfInBounds_toArray, List.set_cons_zero, List.set_cons_succ]
              refine wpAnyH_take (i := 2) (v := ?_) (by simp only [List.getElem?_toArray, List.getElem?_cons_succ, List.getElem?_cons_zero]; rfl) (by kernel_rfl) (by kernel_rfl) (by kernel_rfl) (by exact fun _ _ _ h => h) (Or.inl ⟨by rfl, ?_⟩) hHeld ?_
              rotate_left
              · intro w hSw; (try dsimp only at hSw); go_simp; (try with_reducible rfl)
              try simp only [Act.put, List.setIfInBounds_toArray, List.set_cons_zero, List.set_cons_succ]
              refine wpAnyH_take (i := 3) (v := ?_) (by simp only [List.getElem?_toArray, List.getElem?_cons_succ, List.getElem?_cons_zero]; rfl) (by kernel_rfl) (by kernel_rfl) (by kernel_rfl) (by exact fun _ _ _ h => h) (Or.inl ⟨by rfl, ?_⟩) hHeld ?_
              rotate_left
              · intro w hSw; (try dsimp only at hSw); go_simp; (try with_reducible rfl)
              try simp only [Act.put, List.setIfInBounds_toArray, List.set_cons_zero, List.set_cons_succ]
              refine wpAnyH_take (i := 5) (v := ?_) (by simp only [List.getElem?_toArray, List.getElem?_cons_succ, List.getElem?_cons_zero]; rfl) (by kernel_rfl) (by kernel_rfl) (by kernel_rfl) (by exact fun _ _ _ h => h) (Or.inl ⟨by rfl, ?_⟩) hHeld ?_
              rotate_left
              · intro w hSw; (try dsimp only at hSw); go_simp; (try with_reducible rfl)
              try simp only [Act.put, List.setIfInBounds_toArray, List.set_cons_zero, List.set_cons_succ]
              refine wpAnyH_take (i := 6) (v := ?_) (by simp only [List.getElem?_toArray, List.getElem?_cons_succ, List.getElem?_cons_zero]; rfl) (by kernel_rfl) (by kernel_rfl) (by kernel_rfl) (by exact fun _ _ _ h => h) (Or.inl ⟨by rfl, ?_⟩) hHeld ?_
              rotate_left
              · intro w hSw; (try dsimp only at hSw); go_simp; (try with_reducible rfl)
              try simp only [Act.put, List.setIfInBounds_toArray, List.set_cons_zero, List.set_cons_succ]
              refine wpAnyH_take (i := 7) (v := ?_) (by simp only [List.getElem?_toArray, List.getElem?_cons_succ, List.getElem?_cons_zero]; rfl) (by kernel_rfl) (by kernel_rfl) (by kernel_rfl) (by exact fun _ _ _ h => h) (Or.inl ⟨by rfl, ?_⟩) hHeld ?_
              rotate_left
              · intro w hSw; (try dsimp only at hSw); go_simp; (try with_reducible rfl)
              try simp only [Act.put, List.setIfInBounds_toArray, List.set_cons_zero, List.set_cons_succ]
              refine wpAnyH_take (i := 8) (v := ?_) (by simp only [List.getElem?_toArray, List.getElem?_cons_succ, List.getElem?_cons_zero]; rfl) (by kernel_rfl) (by kernel_rfl) (by kernel_rfl) (by exact fun _ _ _ h => h) (Or.inl ⟨by rfl, ?_⟩) hHeld ?_
              rotate_left
              · intro w hSw; (try dsimp only at hSw); go_simp; (try with_reducible rfl)
              try simp only [Act.put, List.setIfInBounds_toArray, List.set_cons_zero, List.set_cons_succ]
              refine wpAnyH_ready (rs := [4]) (by kernel_rfl) (by simp) ?_
              refine AllReadyH.cons (by simp only [List.getElem?_toArray, List.getElem?_cons_succ, List.getElem?_cons_zero]; rfl) (fun kC hkC => ?_) AllReadyH.nil
              go_simp
              refine (xStep_any (hX0.nx hk2) HI.out.len (HI.out.ti k hk2).step).mono ?_; rintro e w5 ⟨rfl, hP1⟩; obtain ⟨V1, hX1⟩ := hX0.txStep hk2 hP1
              (try go_wp2_with fail)
              refine hkC.out _ _ (⟨⟨hX1.cX hk2, hX1.cY hk2⟩, trivial⟩) (fun hHeld => ?_)
              clear hkC kC
              try simp only [Act.put, List.setIfInBounds_toArray, List.set_cons_zero, List.set_cons_succ]
              refine wpAnyH_ready (rs := [9]) (by kernel_rfl) (by simp) ?_
              refine AllReadyH.cons (by simp only [List.getElem?_toArray, List.getElem?_cons_succ, List.getElem?_cons_zero]; rfl) (fun kC hkC => ?_) AllReadyH.nil
              go_simp
              refine (dStep_any (hX1.dxx hk2) (HI.out.sim k hk2).dok (HI.out.di k hk2)).mono ?_; rw [HSR.out.1]; rintro e w6 ⟨rfl, hP2⟩; obtain ⟨V2, hX2⟩ := hX1.dxStep hk2 hP2
              (try go_wp2_with fail)
              refine hkC.out _ _ (⟨⟨hX2.cX hk2, hX2.cY hk2⟩, trivial⟩) (fun hHeld => ?_)
              clear hkC kC
              try simp only [Act.put, List.setIfInBounds_toArray, List.set_cons_zero, List.set_cons_succ]
              refine wpAnyH_take (i := 10) (v := ?_) (by simp only [List.getElem?_toArray, List.getElem?_cons_succ, List.getElem?_cons_zero]; rfl) (by kernel_rfl) (by kernel_rfl) (by kernel_rfl) (by exact fun _ _ _ h => h) (Or.inl ⟨by rfl, ?_⟩) hHeld ?_
              rotate_left
              · intro w hSw; (try dsimp only at hSw); go_simp; (try with_reducible rfl)
              try simp only [Act.put, List.setIfInBounds_toArray, List.set_cons_zero, List.set_cons_succ]
              refine wpAnyH_take (i := 11) (v := ?_) (by simp only [List.getElem?_toArray, List.getElem?_cons_succ, List.getElem?_cons_zero]; rfl) (by kernel_rfl) (by kernel_rfl) (by kernel_rfl) (by exact fun _ _ _ h => h) (Or.inl ⟨by rfl, ?_⟩) hHeld ?_
              rotate_left
              · intro w hSw; (try dsimp only at hSw); go_simp; (try with_reducible rfl)
              try simp only [Act.put, List.setIfInBounds_toArray, List.set_cons_zero, List.set_cons_succ]
              refine wpAnyH_done (by kernel_rfl) ?_ _
              clear hHeld
              rw [HSR0.out.1] at hX2
              have hti := (HI.out.ti k hk2).stepX M
              have hln : (stepX M (t k)).1.L.length = 34 := (stepX_len _ _).trans HI.out.len
              have hdi := stepD_i M (d k) (HI.out.di k hk2)
              have hsm := HSR.out.2
              generalize (stepX M (t k)).1 = M' at *
              generalize (stepX M (t k)).2.1 = t1 at *
              generalize (stepD M (d k)).2.1 = d1 at *
              generalize (stepX M (t k)).2.2 = cc at *
              have HX2 := Lib.hid hX2; have HTI := Lib.hid hti; have HLN := Lib.hid hln; have HDI := Lib.hid hdi; have HSI := Lib.hid hsm
              have HA0 := Lib.hid (HI.out.a0 k hk2)
              clear hX2 hti hln hdi hsm hX0 hX1 hP1 hP2 HSR HSR0 cB fB lB
              have HGO := Lib.hid (HI.out.go (k := k) HSI.out HTI.out HDI.out HLN.out (x := at_ k) (HI.out.a0 k hk2) (.inr hb1))
              rw [fput_self] at HGO
              have hb2 : fput bu k b0 = bu := by rw [← HBU.out, fput_self]
              rw [hb2] at HGO
              by_cases hcz : cc = 0
              · subst hcz
                go_wp2_with (go_at_call 20; refine (like16_any _ _ _ _ _ M' HX2.out.mm HX2.out.mr).mono ?_; rintro e w7 ⟨rfl, hk7⟩)
                go_meet
                exact ⟨V2, M', _, _, _, _, HX2.out.no hk7, HGO.out⟩
              · have ec : (cc != 0) = true := by simpa using hcz
                go_upto_region 37 with (go_at_call 20; refine (like16_any _ _ _ _ _ M' HX2.out.mm HX2.out.mr).mono ?_; rintro e w7 ⟨rfl, hk7⟩)
                have hX7 := HX2.out.no hk7
                have HX7 := Lib.hid hX7
                obtain ⟨cA, fA, lA⟩ := hX7.cA hk2
                obtain ⟨cB, fB, lB⟩ := hX7.cB hk2
                clear hX7 hk7 hcz
                by_cases hc2 : cc = 2
                · subst hc2
                  go_upto_region 40 with fail
                  have h8 := HX7.out.setB hk2 0
                  generalize w7.setCell ⟨P.EB, k, none⟩ (.int .i64 0) = w9 at *
                  clear cA fA lA cB fB lB
                  obtain ⟨cA, fA, lA⟩ := h8.cA hk2
                  have HX8 := Lib.hid h8
                  clear h8
                  go_wp2_with fail
                  go_meet
                  exact ⟨V2, M', _, _, _, _, HX8.out.setA hk2 0, HI.out.go HSI.out HTI.out HDI.out HLN.out ⟨Int.le_refl _, by omega⟩ (.inl rfl)⟩
                · have ec2 : (cc == 2) = false := by simpa using hc2
                  go_wp2_with fail
                  go_meet
                  refine ⟨V2, M', _, _, _, _, HX7.out.setB hk2 0, ?_⟩
                  have := HI.out.go (k := k) HSI.out HTI.out HDI.out HLN.out (x := at_ k) (HI.out.a0 k hk2) (.inl rfl)
                  rw [fput_self] at this
                  exact this
        case rest =>
          as_aux_lemma =>
            obtain ⟨V', M', t', d', at', bu', hw1, hj1⟩ := hcut
            have HX := Lib.hid hw1; have HJ := Lib.hid hj1
            clear hw1 hj1
            go_upto_region 41 with fail
            have hX0 := HX.out.no ((Keeps.refl NoS wc).drew)
            refine wp_region_held_drew (S := (fun w' => w'.cell? ⟨P.XA, k, none⟩ = some (.pointer (some ⟨P.X k, 0, none⟩)) ∧ w'.cell? ⟨P.YA, k, none⟩ = some (.pointer (some ⟨P.Y k, 0, none⟩)))) (by kernel_rfl) (⟨hX0.cX hk2, hX0.cY hk2⟩) (fun hHeld => ?_)
            refine wpAnyH_take (i := 0) (v := ?_) (by simp only [List.getElem?_toArray, List.getElem?_cons_succ, List.getElem?_cons_zero]; rfl) (by kernel_rfl) (by kernel_rfl) (by kernel_rfl) (by exact fun _ _ _ h => h) (Or.inl ⟨by rfl, ?_⟩) hHeld ?_
            rotate_left
            · intro w hSw; (try dsimp only at hSw); go_simp; (try with_reducible rfl)
            try simp only [Act.put, List.setIfInBounds_toArray, List.set_cons_zero, List.set_cons_succ]
            refine wpAnyH_take (i := 1) (v := ?_) (by simp only [List.getElem?_toArray, List.getElem?_cons_succ, List.getElem?_cons_zero]; rfl) (by kernel_rfl) (by kernel_rfl) (by kernel_rfl) (by exact fun _ _ _ h => h) (Or.inl ⟨by rfl, ?_⟩) hHeld ?_
            rotate_left
            · intro w hSw; (try dsimp only at hSw); go_simp; (try with_reducible rfl)
            try simp only [Act.put, List.setIfInBounds_toArray, List.set_cons_zero, List.set_cons_succ]
            refine wpAnyH_take (i := 2) (v := ?_) (by simp only [List.getElem?_toArray, List.getElem?_cons_succ, List.getElem?_cons_zero]; rfl) (by kernel_rfl) (by kernel_rfl) (by kernel_rfl) (by exact fun _ _ _ h => h) (Or.inl ⟨by rfl, ?_⟩) hHeld ?_
            rotate_left
            · intro w hSw; (try dsimp only at hSw); go_simp; (try with_reducible rfl)
            try simp only [Act.put, List.setIfInBounds_toArray, List.set_cons_zero, List.set_cons_succ]
            refine wpAnyH_take (i := 3) (v := ?_) (by simp only [List.getElem?_toArray, List.getElem?_cons_succ, List.getElem?_cons_zero]; rfl) (by kernel_rfl) (by kernel_rfl) (by kernel_rfl) (by exact fun _ _ _ h => h) (Or.inl ⟨by rfl, ?_⟩) hHeld ?_
            rotate_left
            · intro w hSw; (try dsimp only at hSw); go_simp; (try with_reducible rfl)
            try simp only [Act.put, List.setIfInBounds_toArray, List.set_cons_zero, List.set_cons_succ]
            refine wpAnyH_take (i := 4) (v := ?_) (by simp only [List.getElem?_toArray, List.getElem?_cons_succ, List.getElem?_cons_zero]; rfl) (by kernel_rfl) (by kernel_rfl) (by kernel_rfl) (by exact fun _ _ _ h => h) (Or.inl ⟨by rfl, ?_⟩) hHeld ?_
            rotate_left
            · intro w hSw; (try dsimp only at hSw); go_simp; (try with_reducible rfl)
            try simp only [Act.put, List.setIfInBounds_toArray, List.set_cons_zero, List.set_cons_succ]
            refine wpAnyH_take (i := 5) (v := ?_) (by simp only [List.getElem?_toArray, List.getElem?_cons_succ, List.getElem?_cons_zero]; rfl) (by kernel_rfl) (by kernel_rfl) (by kernel_rfl) (by exact fun _ _ _ h => h) (Or.inl ⟨by rfl, ?_⟩) hHeld ?_
            rotate_left
            · intro w hSw; (try dsimp only at hSw); go_simp; (try with_reducible rfl)
            try simp only [Act.put, List.setIfInBounds_toArray, List.set_cons_zero, List.set_cons_succ]
            refine wpAnyH_ready (rs := [6]) (by kernel_rfl) (by simp) ?_
            refine AllReadyH.cons (by simp only [List.getElem?_toArray, List.getElem?_cons_succ, List.getElem?_cons_zero]; rfl) (fun kC hkC => ?_) AllReadyH.nil
            go_simp
            refine (xlike_any (hX0.nx hk2) (hX0.dxx hk2) (HJ.out.sim k hk2)).mono ?_; rintro e w5 ⟨rfl, hk5⟩; have hX1 := hX0.no hk5
            (try go_wp2_with fail)
            refine hkC.out _ _ (⟨hX1.cX hk2, hX1.cY hk2⟩) (fun hHeld => ?_)
            clear hkC kC
            try simp only [Act.put, List.setIfInBounds_toArray, List.set_cons_zero, List.set_cons_succ]
            refine wpAnyH_take (i := 7) (v := ?_) (by simp only [List.getElem?_toArray, List.getElem?_cons_succ, List.getElem?_cons_zero]; rfl) (by kernel_rfl) (by kernel_rfl) (by kernel_rfl) (by exact fun _ _ _ h => h) (Or.inl ⟨by rfl, ?_⟩) hHeld ?_
            rotate_left
            · intro w hSw; (try dsimp only at hSw); go_simp; (try with_reducible rfl)
            try simp only [Act.put, List.setIfInBounds_toArray, List.set_cons_zero, List.set_cons_succ]
            refine wpAnyH_done (by kernel_rfl) ?_ _
            clear hHeld hX0
            go_upto_region 43 with fail
            obtain ⟨cA, fA, lA⟩ := hX1.cA hk2
            obtain ⟨cB, fB, lB⟩ := hX1.cB hk2
            have cP := hX1.cP hk2
            obtain ⟨pk, capk, hsl, _, _⟩ := HIN.out k hk2
            rw [hsl, HNL.out] at cP
            obtain ⟨A, hA⟩ : ∃ z, at' k = z := ⟨_, rfl⟩
            obtain ⟨b0, hb0⟩ : ∃ z, bu' k = z := ⟨_, rfl⟩
            rw [hA] at cA
            rw [hb0] at cB
            have HAT := Lib.hid hA; have HBU := Lib.hid hb0; have HX1 := Lib.hid hX1
            have hn8 := HN8.out k hk2
            have hwn : wrap64 ((n k : Int) + 1) = (n k : Int) + 1 := wrap64_id (by omega) (by omega)
            clear hX1 hk5 hsl hA hb0
            by_cases hgt : (n k : Int) + 1 < A
            · have eg : decide ((n k : Int) + 1 < A) = true := decide_eq_true hgt
              by_cases hbz : b0 = 0
              · have eb : (b0 == 0) = true := by simpa using hbz
                go_quiet (fail)
                go_upto_region 44 with fail
                have hX2 := HX1.out.no ((Keeps.refl NoS w5).drewN nq)
                generalize w5.drewN nq = w6 at *
                clear cA fA lA cB fB lB cP
                obtain ⟨cA, fA, lA⟩ := hX2.cA hk2
                have HX2 := Lib.hid hX2
                clear hX2
                go_wp2_with fail
                go_roundg (L3.len - i - 1)
                case measure => omega
                case rel => exact ⟨i + 1, V', M', t', d', _, bu', by omega, by go_num, HX2.out.setA hk2 0, HJ.out.zero⟩
              · have eb : (b0 == 0) = false := by simpa using hbz
                go_quiet (fail)
                go_wp2_with fail
                go_roundg (L3.len - i - 1)
                case measure => omega
                case rel => exact ⟨i + 1, V', M', t', d', at', bu', by omega, by go_num, HX1.out.no ((Keeps.refl NoS w5).drewN nq), HJ.out.stay (fun e => absurd (HBU.out.symm.trans e) hbz)⟩
            · have eg : decide ((n k : Int) + 1 < A) = false := decide_eq_false hgt
              go_quiet (fail)
              go_wp2_with fail
              go_roundg (L3.len - i - 1)
              case measure => omega
              case rel => exact ⟨i + 1, V', M', t', d', at', bu', by omega, by go_num, HX1.out.no ((Keeps.refl NoS w5).drewN nq), HJ.out.stay (fun _ => by rw [HAT.out]; omega)⟩
    · obtain rfl : i = L3.len := by omega
      go_wp2_with (first
        | (go_at_call 4; refine (told16_any _).mono ?_; rintro e wt ⟨rfl, hkt⟩)
        | (go_at_call 22; refine (same_any _ _ _ _ M M _ ((HX.out.no hkt).mm) ((HX.out.no hkt).mr) rfl).mono ?_; rintro e ws ⟨rfl, hks⟩))
      go_ret
      exact ⟨rfl, (HX.out.kp.trans hkt).trans hks⟩
theorem norecTwo_walk (w : World) (a0 : Int) (_w0 : (Lit.int .i64 a0).wf = true) (v1 : Value) (L1 : NRows) (hin1 : InN 3 w v1 L1) (v2 : Value) (L2 : NRows) (hin2 : InN 3 w v2 L2) (v3 : Value) (L3 : NBools) (hin3 : InBo w v3 L3) :
    Calls Tryz.prog 3 #[.int .i64 a0, v1, v2, v3] w fun e w' => e = .returned (.bool true) ∧ Keeps NoS w w' := norecTwo_main w a0 v1 v2 v3 L1 L2 L3 hin1 hin2 hin3
end Go.Proofs.YtlcmnhfiggkmnaaGreat
