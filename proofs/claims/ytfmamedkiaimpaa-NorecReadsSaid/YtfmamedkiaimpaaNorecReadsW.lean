/- NorecReads: the walks through the law's code. -/
import Derived.Test.YtfmamedkiaimpaaRdW
import Derived.Test.YtfmamedkiaimpaaTxTold
import Derived.Deep.CutBlock
import Derived.Deep.LoopGhost
import Derived.Deep.DeepCutAuto
namespace Go.Proofs.Ytfmamedkiaimpaa
open Go.RowKit
theorem rdT : ∃ i, IntT 2 24 i := by
  obtain ⟨i, h1, h2, h3, h4⟩ := info_parts infoI64
  exact ⟨i, by kernel_rfl, h1, h2, h3, h4⟩
theorem pick3 (x : Int) : ∃ t : Nat, t < 3 ∧ (IntKind.u64.wrap x).tmod 3 = (t : Int) := by
  obtain ⟨h1, h2⟩ := u64_tmod_bd x 3 (by omega)
  exact ⟨((IntKind.u64.wrap x).tmod 3).toNat, by omega, by omega⟩
theorem modN (x : Int) (n : Nat) (h : 0 < n) : ∃ t : Nat, t < n ∧ (IntKind.u64.wrap x).tmod (n : Int) = (t : Int) := by
  obtain ⟨h1, h2⟩ := u64_tmod_bd x n (by omega)
  exact ⟨((IntKind.u64.wrap x).tmod n).toNat, by omega, by omega⟩
/-- four rows of a plan, as they are laid -/
theorem plan_new (w : World) (a0 a1 a2 b0 b1 b2 c0 c1 c2 d0 d1 d2 : Int) (T : TypeId) : PlanAt (w.alloc (.cells #[.int .i64 a0, .int .i64 a1, .int .i64 a2, .int .i64 b0, .int .i64 b1, .int .i64 b2, .int .i64 c0, .int .i64 c1, .int .i64 c2, .int .i64 d0, .int .i64 d1, .int .i64 d2] T)) (.slice (some ⟨w.heap.size, 0, none⟩) 4 4) [(a0, a1, a2), (b0, b1, b2), (c0, c1, c2), (d0, d1, d2)] := by
  have hb := heap_alloc_new w (.cells #[.int .i64 a0, .int .i64 a1, .int .i64 a2, .int .i64 b0, .int .i64 b1, .int .i64 b2, .int .i64 c0, .int .i64 c1, .int .i64 c2, .int .i64 d0, .int .i64 d1, .int .i64 d2] T)
  refine .inr ⟨w.heap.size, 4, rfl, blk_lt hb, fun k hk => ?_⟩
  rcases (show k = 0 ∨ k = 1 ∨ k = 2 ∨ k = 3 by have : k < 4 := hk; omega) with rfl | rfl | rfl | rfl <;> exact ⟨by rw [blk_cell hb]; rfl, by rw [blk_cell hb]; rfl, by rw [blk_cell hb]; rfl⟩
/-- the law's sum of what there is -/
def sumM (M : MemS) : Nat → Int
  | 0 => 0
  | d + 1 => wrap64 (sumM M d + M.atP (dA d))
theorem sumM4 (M : MemS) (h : D4 M.atP = 40) : sumM M 4 = 40 := by
  obtain ⟨z0, z1, z2, z3⟩ := dA_val
  unfold D4 at h
  show wrap64 (wrap64 (wrap64 (wrap64 (0 + M.atP (dA ((0 : Nat) : Int))) + M.atP (dA ((1 : Nat) : Int))) + M.atP (dA ((2 : Nat) : Int))) + M.atP (dA ((3 : Nat) : Int))) = 40
  rw [show dA ((0 : Nat) : Int) = 26 from z0, show dA ((1 : Nat) : Int) = 28 from z1, show dA ((2 : Nat) : Int) = 30 from z2, show dA ((3 : Nat) : Int) = 32 from z3]
  rw [wrap64_eq] at h
  simp only [wrap64_eq]
  omega
theorem rdSum_take (rd : List (Int × Int)) (j : Nat) (h : j < rd.length) : rdSum (rd.take (j + 1)) = wrap64 (rdSum (rd.take j) + (rd.getD j (0, 0)).2) := by
  rw [rdSum, List.take_succ_eq_append_getElem h, List.foldl_append, getD_at _ _ _ h]
  rfl
theorem Sy.ok {len i : Nat} {M : MemS} {T : Nat → TxS} {U : Nat → RunM} {P : Nat → List OpZ} {ex : Nat → Bool} (h : Sy len i M T U P ex) {k : Nat} (hk : k < 3) : TI (T k) ∧ RI (U k) ∧ M.L.length = 34 ∧ (ex k = false → (U k).fin ≠ 0) := by
  obtain ⟨N, r, _⟩ := h
  exact ⟨r.ti k hk, r.ri k hk, r.len, fun e => (r.nil k hk e).1⟩
set_option maxHeartbeats 60000000 in
set_option maxRecDepth 100000 in
theorem together_any (w : World) (cl : Int) (v1 v2 : Value) (L1 L2 : List Int) (hin1 : InI w v1 L1) (hin2 : InI w v2 L2) (hl1 : L1.length ≤ 200) (hl2' : L2.length ≤ 50) : Calls Try.prog 8 #[.int .i64 cl, v1, v2] w fun e w' => ∃ sv sums, e = .returned (.tuple #[sv, .bool true]) ∧ RowI 2 w' w.heap.size sv sums ∧ (∀ z ∈ sums, z = 40) ∧ sums.length ≤ 500 ∧ Keeps NoS w w' := by
  obtain ⟨p1, cap1, rfl, hmx1, hc1, _⟩ := hin1
  obtain ⟨p2, cap2, rfl, hmx2, hc2, _⟩ := hin2
  have HC1 := Lib.hid hc1; have HC2 := Lib.hid hc2
  clear hc1 hc2
  go_enter Try.func8, Try.ntmps8
  go_upto_region 2 with (go_at_call 9; refine (map16_any _).mono ?_; rintro e w1 ⟨rfl, hk1⟩)
  have hB := mapAt_new w1 3 1 3 0 4 31
  have hk1' := hk1.alloc (.cells #[.int .i64 3, .int .i64 1, .int .i64 3, .int .i64 0, .int .i64 4] 31)
  have hs1 := hk1.size
  obtain ⟨B, hBe⟩ : ∃ B, w1.heap.size = B := ⟨_, rfl⟩
  have hBl : B < (w1.alloc (.cells #[.int .i64 3, .int .i64 1, .int .i64 3, .int .i64 0, .int .i64 4] 31)).heap.size := by rw [← hBe]; simp
  have hBw : w.heap.size ≤ B := by omega
  rw [hBe] at hB
  (try rw [hBe])
  generalize w1.alloc (.cells #[.int .i64 3, .int .i64 1, .int .i64 3, .int .i64 0, .int .i64 4] 31) = W at *
  clear hk1 hBe hs1
  have HWk := Lib.hid hk1'
  have HMB := Lib.hid hB
  obtain ⟨m0, m1, m2, m3, m4⟩ := hB
  go_upto_region 5 with (go_at_call 10; refine (both_any 3 1 3 0 4 34 m16_size (by decide) (by decide) W).mono ?_; rintro e w2 ⟨a, c, v, u, rfl, hT⟩)
  have HT := Lib.hid hT.s
  have HBB := Lib.hid (And.intro hBw hBl)
  clear m0 m1 m2 m3 m4 hBl hBw hk1' hT
  go_wp2_with fail
  go_loopw [11] (fun iv wr => ∃ d : Nat, d ≤ 4 ∧ iv = .int .i64 d ∧ MemAt wr a v (md d) ∧ Keeps (own2m a v) w2 wr) (fun i _ => 4 - (intOf i).toNat)
  case atStart => exact ⟨0, by omega, rfl, HT.out.m, Keeps.refl _ _⟩
  case round =>
    obtain ⟨d, hd, rfl, hm, hk⟩ := hrel
    have k0 : (0 : Int) ≤ (d : Int) := by omega
    have HM := Lib.hid hm; have HK := Lib.hid hk
    have hbn : ¬ own2m a v B := by
      rintro (e | e)
      · have := HT.out.na; have := HBB.out.2; omega
      · have := HT.out.nv B e; have := HBB.out.2; omega
    have hmp := (HMB.out.keep HT.out.kp (fun f => f)).keep hk hbn
    have HMP := Lib.hid hmp; have HBN := Lib.hid hbn
    obtain ⟨m0, m1, m2, m3, m4⟩ := hmp
    have hBl : B < wr.heap.size := Nat.lt_of_lt_of_le HBB.out.2 (Nat.le_trans HT.out.kp.size hk.size)
    clear hm hk hbn
    by_cases hlt : d < 4
    · have e1 : decide ((d : Int) < 4) = true := decide_eq_true (by omega)
      go_wp2_with (first
        | (go_at_call 20; refine (dataAt_lit 3 1 3 0 4 d (dA d) rfl _).mono ?_; rintro e w3 ⟨rfl, hkD⟩)
        | (go_at_call 16; refine (store_tot a v (md d) (dA d) 10 _ (HM.out.keep hkD (fun f => f) (fun _ _ f => f))).mono ?_; rintro e w4 ⟨rfl, hm4, hk4⟩))
      go_roundw
      case rel => exact ⟨d + 1, by omega, by go_num, hm4, (HK.out.trans hkD.no).trans hk4⟩
      case measure => simp [intOf]; omega
    · obtain rfl : d = 4 := by omega
      have e1 : decide (((4 : Nat) : Int) < 4) = false := by decide
      have hsz := HK.out.size
      have HOW := Lib.hid (show ∀ g, own2m a v g → w.heap.size ≤ g from fun g e => by
        have q := HWk.out.size
        rcases e with e | e
        · have := HT.out.na; omega
        · have := HT.out.nv g e; omega)
      have HKP := Lib.hid ((HWk.out.trans HT.out.kp).trans' HK.out (fun i hi e => absurd (HOW.out i e) (by omega)))
      clear m0 m1 m2 m3 m4 hBl hsz
      go_upto_region 10 with fail
      have hA := heap_alloc_new wr (.cells #[.pointer none, .pointer none, .pointer none] 66)
      have kA := (Keeps.refl NoS wr).alloc (.cells #[.pointer none, .pointer none, .pointer none] 66)
      have hw0 := W3.first (w := w) (T := fun k => tx0 k) (U := fun _ => { run0 [] with fin := 1 }) (HKP.out.trans kA) (HM.out.keep kA (fun f => f) (fun _ _ f => f)) (HMP.out.keep kA (fun f => f)) ⟨_, hA⟩ (by have := HKP.out.size; omega) HBB.out.1 HOW.out (by have := HBB.out.2; have := HT.out.kp.size; have := HK.out.size; omega) (fun e => by
        rcases e with e | e
        · have := blk_lt HM.out.hd; omega
        · have := HM.out.own_lt e; omega) HBN.out
      obtain ⟨A, hAe⟩ : ∃ A, wr.heap.size = A := ⟨_, rfl⟩
      rw [hAe] at hw0
      (try rw [hAe])
      generalize wr.alloc (.cells #[.pointer none, .pointer none, .pointer none] 66) = wB at *
      have HW0 := Lib.hid hw0
      clear hA kA hw0 hAe HM HK HT HMB HBB HMP HBN HOW HKP HWk k0 hlt hd e1
      go_wp2_with fail
      go_loopg [13, 14, 15] (L1.length + 300) (fun g sv nv iv wq => ∃ (i n : Nat) (sums : List Int) (M : MemS) (G : Nat → Rn) (T : Nat → TxS) (U : Nat → RunM) (P : Nat → List OpZ) (ex : Nat → Bool), i + g = L1.length + 300 ∧ iv = .int .i64 i ∧ nv = .int .i64 n ∧ n ≤ i ∧ W3 w wq a v A B sv sums M G T U ex ∧ Sy L1.length i M T U P ex ∧ (∀ z ∈ sums, z = 40) ∧ sums.length ≤ i)
      case atStart => exact ⟨0, 0, [], md 4, _, _, _, _, _, by omega, rfl, rfl, by omega, HW0.out, md_first _, by simp, by simp⟩
      case round =>
        obtain ⟨i, n, sums, M, G, T, U, P, ex, hig, rfl, rfl, hni, hw, hsy, h40, hsl⟩ := hrel
        have HX := Lib.hid hw; have HS := Lib.hid hsy; have H40 := Lib.hid h40
        clear hw hsy h40 HW0
        by_cases hlt : i < L1.length + 300
        · have i0 : (0 : Int) ≤ (i : Int) := by omega
          have i1 : (i : Int) < (L1.length : Int) + 300 := by omega
          have i2 : (i : Int) < 600 := by omega
          have e1 : decide ((i : Int) < (L1.length : Int) + 300) = true := decide_eq_true i1
          obtain ⟨im, him⟩ : ∃ im : Nat, i % 3 = im := ⟨_, rfl⟩
          have him2 : (i : Int) % 3 = (im : Int) := by omega
          have HIM := Lib.hid him
          clear him
          go_upto_if 56 with fail
          go_cut [16] (fun tv wx => ∃ k : Nat, k < 3 ∧ tv = .int .i64 k ∧ wx = wr ∧ (L1.length ≤ i → k = i % 3))
          case first =>
            by_cases hll : i < L1.length
            · obtain ⟨b, off, rfl, hcs⟩ := HC1.out (fun e => by rw [e] at hll; simp at hll)
              have cn := HX.out.kp.cell (hcs i hll) (fun f => f)
              clear hcs
              generalize L1.getD i 0 = z at cn
              obtain ⟨t, ht, hz⟩ := pick3 z
              have ht1 : (0 : Int) ≤ (t : Int) := by omega
              have ht2 : (t : Int) < 3 := by omega
              go_wp2_with fail
              go_meet
              exact ⟨t, ht, rfl, rfl, fun h => by omega⟩
            · go_wp2_with fail
              go_meet
              exact ⟨im, by have := HIM.out; omega, by rw [him2], rfl, fun _ => HIM.out.symm⟩
          case rest =>
            obtain ⟨k, hk3, rfl, hwx, hti⟩ := hcut
            subst hwx
            obtain ⟨W0, hW0⟩ : ∃ z, z = wc := ⟨_, rfl⟩
            subst hW0
            have HTI := Lib.hid hti
            clear hti him2 HIM e1
            have k0 : (0 : Int) ≤ (k : Int) := by omega
            have k1 : (k : Int) < 3 := by omega
            go_upto_region 18 with fail
            go_cut [82] (fun bv wx => ∃ b : Bool, bv = .bool b ∧ wx = W0 ∧ (b = true → (ex k = false ∨ ((U k).fin ≠ 0 ∧ i < L1.length))) ∧ (b = false → ex k = true ∧ (i < L1.length → (U k).fin = 0)))
            case first =>
              as_aux_lemma =>
                have fA := (HX.out.cA hk3).2.1
                have lA := (HX.out.cA hk3).2.2
                cases hex : ex k with
                | false =>
                  have cA := HX.out.cN hk3 hex
                  go_wp2_with fail
                  go_meet
                  exact ⟨true, rfl, rfl, fun _ => .inl hex, (fun e => by cases e)⟩
                | true =>
                  have cA := HX.out.cP hk3 hex
                  have hN := HX.out.rn k hk3 hex
                  have c4 := hN.c 4 (z := .int .i64 (U k).fin) rfl
                  have hl := hN.lt
                  by_cases hf : (U k).fin = 0
                  · have ef : ((U k).fin != 0) = false := by simpa using hf
                    go_wp2_with fail
                    go_meet
                    exact ⟨false, rfl, rfl, (fun e => by cases e), fun _ => ⟨hex, fun _ => hf⟩⟩
                  · have ef : ((U k).fin != 0) = true := by simpa using hf
                    by_cases hll : i < L1.length
                    · have el : decide ((i : Int) < (L1.length : Int)) = true := decide_eq_true (by omega)
                      go_wp2_with fail
                      go_meet
                      exact ⟨true, rfl, rfl, fun _ => .inr ⟨hf, hll⟩, (fun e => by cases e)⟩
                    · have el : decide ((i : Int) < (L1.length : Int)) = false := decide_eq_false (by omega)
                      go_wp2_with fail
                      go_meet
                      exact ⟨false, rfl, rfl, (fun e => by cases e), fun _ => ⟨hex, fun e => absurd e hll⟩⟩
            case rest =>
              obtain ⟨b, rfl, hwx, hb1, hb2⟩ := hcut
              have hwx := hwx.symm
              subst hwx
              have HB1 := Lib.hid hb1; have HB2 := Lib.hid hb2
              clear hb1 hb2
              go_upto_if 82 with fail
              go_cut [14] (fun nv wx => ∃ (n' : Nat) (G' : Nat → Rn) (T' : Nat → TxS) (U' : Nat → RunM) (P' : Nat → List OpZ) (ex' : Nat → Bool), nv = .int .i64 n' ∧ n' ≤ i + 1 ∧ W3 w wx a v A B u13 sums M G' T' U' ex' ∧ Sy L1.length i M T' U' P' ex' ∧ ex' k = true ∧ (i < L1.length → (U' k).fin = 0))
              case first =>
                cases b with
                | false =>
                  go_wp2_with fail
                  go_meet
                  exact ⟨n, G, T, U, P, ex, rfl, by omega, HX.out, HS.out, (HB2.out (by simp)).1, (HB2.out (by simp)).2⟩
                | true =>
                  have HF := Lib.hid (show (U k).fin ≠ 0 from (HB1.out rfl).elim (fun e => (HS.out.ok hk3).2.2.2 e) (fun e => e.1))
                  have HI := Lib.hid (show L1.length ≤ i → k = i % 3 ∧ ex k = false from fun h => ⟨HTI.out h, (HB1.out rfl).elim id (fun e => absurd e.2 (by omega))⟩)
                  clear HB1 HB2
                  go_upto_region 20 with fail
                  have hpl0 := plan_new W0 0 0 0 0 1 0 0 2 0 0 3 0 39
                  have kp0 := (Keeps.refl NoS W0).alloc (.cells #[.int .i64 0, .int .i64 0, .int .i64 0, .int .i64 0, .int .i64 1, .int .i64 0, .int .i64 0, .int .i64 2, .int .i64 0, .int .i64 0, .int .i64 3, .int .i64 0] 39)
                  have hls : W0.heap.size < (W0.alloc (.cells #[.int .i64 0, .int .i64 0, .int .i64 0, .int .i64 0, .int .i64 1, .int .i64 0, .int .i64 0, .int .i64 2, .int .i64 0, .int .i64 0, .int .i64 3, .int .i64 0] 39)).heap.size := by simp
                  go_cut [94] (fun bv wx => bv = .bool (decide (0 < k) && decide (0 < L2.length)) ∧ wx = W0.alloc (.cells #[.int .i64 0, .int .i64 0, .int .i64 0, .int .i64 0, .int .i64 1, .int .i64 0, .int .i64 0, .int .i64 2, .int .i64 0, .int .i64 0, .int .i64 3, .int .i64 0] 39))
                  case first =>
                    by_cases hkz : k = 0
                    · subst hkz
                      go_wp2_with fail
                      go_meet
                      exact ⟨rfl, rfl⟩
                    · have ek : decide ((0 : Int) < (k : Int)) = true := decide_eq_true (by omega)
                      have ek2 : decide (0 < k) = true := decide_eq_true (by omega)
                      by_cases hlz : 0 < L2.length
                      · have el : decide ((0 : Int) < (L2.length : Int)) = true := decide_eq_true (by omega)
                        go_wp2_with fail
                        go_meet
                        exact ⟨by rw [ek2, decide_eq_true hlz]; rfl, rfl⟩
                      · have el : decide ((0 : Int) < (L2.length : Int)) = false := decide_eq_false (by omega)
                        go_wp2_with fail
                        go_meet
                        exact ⟨by rw [decide_eq_false hlz, Bool.and_false], rfl⟩
                  case rest =>
                    obtain ⟨rfl, rfl⟩ := hcut
                    have HPL0 := Lib.hid hpl0; have HK0 := Lib.hid kp0; have HLS := Lib.hid hls
                    clear hpl0 kp0 hls
                    obtain ⟨bq, hbq⟩ : ∃ q, (decide (0 < k) && decide (0 < L2.length)) = q := ⟨_, rfl⟩
                    rw [hbq]
                    go_upto_if 94 with fail
                    go_cut [17, 14] (fun pv nv wx => ∃ (n' : Nat) (P1 : List OpZ) (c1 : Int), nv = .int .i64 n' ∧ n' ≤ i + 1 ∧ PK P1 c1 ∧ PlanAt wx pv P1 ∧ (∀ g, pv.ownBlock = some g → W0.heap.size ≤ g ∧ g < wx.heap.size) ∧ Keeps NoS W0 wx)
                    case first =>
                      cases bq with
                      | false =>
                        go_wp2_with fail
                        go_meet
                        refine ⟨n, _, _, rfl, by omega, PK.r, HPL0.out, fun g e => ?_, HK0.out⟩
                        have e' : W0.heap.size = g := by simpa [Value.ownBlock] using e
                        have := HLS.out
                        omega
                      | true =>
                        have hl2 : 0 < L2.length := by
                          by_cases z : 0 < L2.length
                          · exact z
                          · rw [decide_eq_false z, Bool.and_false] at hbq; cases hbq
                        have hnm : (n % L2.length) < L2.length := Nat.mod_lt _ hl2
                        obtain ⟨nm, hnme⟩ : ∃ z, n % L2.length = z := ⟨_, rfl⟩
                        rw [hnme] at hnm
                        have hnme2 : (n : Int).tmod (L2.length : Int) = (nm : Int) := by rw [← hnme]; rfl
                        have hnme3 : (n : Int) % (L2.length : Int) = (nm : Int) := by rw [← hnme]; rfl
                        have nm0 : (0 : Int) ≤ (nm : Int) := by omega
                        have nm1 : (nm : Int) < (L2.length : Int) := by omega
                        have n0 : (0 : Int) ≤ (n : Int) := by omega
                        have lz : ((L2.length : Int) == 0) = false := beq_false_of_ne (by omega)
                        have lz2 : (0 : Int) < (L2.length : Int) := by omega
                        obtain ⟨b2, off2, rfl, hcs⟩ := HC2.out (fun e => by rw [e] at hl2; simp at hl2)
                        have cn := (HX.out.kp.trans HK0.out).cell (hcs nm hnm) (fun f => f)
                        clear hcs
                        generalize L2.getD nm 0 = z at cn
                        obtain ⟨W1, hW1⟩ : ∃ y, W0.alloc (.cells #[.int .i64 0, .int .i64 0, .int .i64 0, .int .i64 0, .int .i64 1, .int .i64 0, .int .i64 0, .int .i64 2, .int .i64 0, .int .i64 0, .int .i64 3, .int .i64 0] 39) = y := ⟨_, rfl⟩
                        rw [hW1] at HK0 HPL0 HLS cn
                        rw [hW1]
                        have b2l := World.block_lt_of_cell? W1 _ cn
                        clear hW1 HPL0
                        obtain ⟨fa, hfa4, hfa'⟩ := modN z 4 (by omega)
                        obtain ⟨tb, htb3, htb'⟩ := modN ((IntKind.u64.wrap z).tdiv 4) 3 (by omega)
                        obtain ⟨xx, hxx5, hxx'⟩ := modN ((IntKind.u64.wrap z).tdiv 12) 5 (by omega)
                        have hfa : (IntKind.u64.wrap z).tmod 4 = (fa : Int) := hfa'
                        have htb : (IntKind.u64.wrap ((IntKind.u64.wrap z).tdiv 4)).tmod 3 = (tb : Int) := htb'
                        have hxx : (IntKind.u64.wrap ((IntKind.u64.wrap z).tdiv 12)).tmod 5 = (xx : Int) := hxx'
                        clear hfa' htb' hxx'
                        have f0 : (0 : Int) ≤ (fa : Int) := by omega
                        have f1 : (fa : Int) < 4 := by omega
                        have f2 : (0 : Int) ≤ (tb : Int) := by omega
                        have f3 : (tb : Int) < 3 := by omega
                        have f4 : (0 : Int) ≤ (xx : Int) := by omega
                        have f5 : (xx : Int) < 5 := by omega
                        by_cases hft : fa ≤ tb
                        · have e5 : decide ((fa : Int) ≤ (tb : Int)) = true := decide_eq_true (by omega)
                          go_wp2_with fail
                          clear hfa htb hxx
                          go_meet
                          refine ⟨n + 1, mvP fa (tb + 1) xx, _, by go_num, by omega, PK.m ⟨by omega, by omega, by omega, by omega, by omega⟩, plan_new W1 0 fa 0 0 (tb + 1) 0 1 fa (-xx) 1 (tb + 1) xx _, fun g e => ?_, HK0.out.alloc _⟩
                          have e' : W1.heap.size = g := by simpa [Value.ownBlock] using e
                          have := HLS.out
                          exact ⟨by omega, by simp; omega⟩
                        · have e5 : decide ((fa : Int) ≤ (tb : Int)) = false := decide_eq_false (by omega)
                          go_wp2_with fail
                          clear hfa htb hxx
                          go_meet
                          refine ⟨n + 1, mvP fa tb xx, _, by go_num, by omega, PK.m ⟨by omega, by omega, by omega, by omega, by omega⟩, plan_new W1 0 fa 0 0 tb 0 1 fa (-xx) 1 tb xx _, fun g e => ?_, HK0.out.alloc _⟩
                          have e' : W1.heap.size = g := by simpa [Value.ownBlock] using e
                          have := HLS.out
                          exact ⟨by omega, by simp; omega⟩
                    case rest =>
                      as_aux_lemma =>
                        obtain ⟨n', P1, c1, rfl, hn', hpk, hpl, hpo, hkx⟩ := hcut
                        have HPK := Lib.hid hpk; have HPL := Lib.hid hpl; have HPO := Lib.hid hpo; have HKX := Lib.hid hkx
                        have hx1 := HX.out.no hkx
                        have HX1 := Lib.hid hx1
                        obtain ⟨pp, pc', hpv⟩ := hpl.sl
                        subst hpv
                        clear hpk hpl hpo hkx hx1 HPL0 HK0 HLS hbq
                        obtain ⟨cA, fA, lA⟩ := HX1.out.cA hk3
                        go_upto_region 28 with (go_at_call 11; refine (xNew16_any (k : Int) _ (by omega) _).mono ?_; rintro e w5 ⟨X, ra, wa, rfl, hn5⟩; have hx5 := HX1.out.no hn5.kp; obtain ⟨cA, fA, lA⟩ := hx5.cA hk3)
                        have hA5 := (hx5.cA hk3).2.2
                        obtain ⟨G', hG⟩ := HX.out.made hk3 HKX.out hn5 HPL.out HPO.out
                        have HG := Lib.hid hG
                        clear cA fA lA hn5 hx5
                        have hren := HS.out.renew hk3 HI.out HF.out HPK.out
                        have HR := Lib.hid hren
                        clear hren
                        have hpe : ruC X (.slice pp P1.length pc') (.slice none 0 0) (run0 P1) = #[.pointer (some ⟨X, 0, none⟩), .slice pp P1.length pc', .int .i64 0, .bool false, .int .i64 0, .slice none 0 0] := rfl
                        rw [hpe] at HG hG
                        rw [World.setCell_alloc_past _ A k _ hA5] at HG hG
                        generalize (w5.setCell ⟨A, k, none⟩ (.pointer (some ⟨w5.heap.size, 0, none⟩))).alloc (.cells #[.pointer (some ⟨X, 0, none⟩), .slice pp P1.length pc', .int .i64 0, .bool false, .int .i64 0, .slice none 0 0] 45) = w6 at *
                        clear hA5
                        have hexk : put3 ex k true k = true := put3_eq _ _ _
                        have cA := hG.cP hk3 hexk
                        have hN := hG.rn k hk3 hexk
                        have c0 := hN.c 0 (z := .pointer (some ⟨(G' k).X, 0, none⟩)) rfl
                        have hl := hN.lt
                        obtain ⟨cA2, fA, lA⟩ := hG.cA hk3
                        clear hG hN cA2 hpe
                        go_wp2_with fail
                        go_meet
                        exact ⟨n', G', _, _, _, _, rfl, hn', HG.out, HR.out, hexk, fun _ => by rw [put3_eq]; rfl⟩
              case rest =>
                as_aux_lemma =>
                  obtain ⟨n', G', T', U', P', ex', rfl, hn', hw', hs', hex', hf'⟩ := hcut
                  obtain ⟨hti, hri, hln, _⟩ := hs'.ok hk3
                  have hst := hs'.step hk3 HTI.out hex' hf'
                  have HST := Lib.hid hst.1; have HRD := Lib.hid hst.2
                  have HX2 := Lib.hid hw'
                  have HEX := Lib.hid hex'
                  have cA := hw'.cP hk3 hex'
                  have lA := (hw'.cA hk3).2.2
                  have hN := hw'.rn k hk3 hex'
                  have hl := hN.lt
                  obtain ⟨rp, rc, hrv⟩ := hN.rsl
                  have c5 := hN.c 5 (z := (G' k).rdv) rfl
                  rw [hrv] at c5
                  obtain ⟨m0, m1, m2, m3, m4⟩ := hw'.mp
                  have hBl := hw'.hi .mp B rfl
                  obtain ⟨was, hwas⟩ : ∃ z, (U' k).rd.length = z := ⟨_, rfl⟩
                  rw [hwas] at c5
                  have HWAS := Lib.hid hwas
                  have HN := Lib.hid hN; have HTT := Lib.hid (And.intro hti (And.intro hri hln))
                  clear hst hw' hs' hex' hf' hrv hwas hN hti hri hln HX HS HTI HB1 HB2
                  obtain ⟨U0, hU0⟩ : ∃ z, (G' k).U = z := ⟨_, rfl⟩
                  rw [hU0] at cA c5 hl
                  have HU0 := Lib.hid hU0
                  clear hU0
                  go_upto_region 30 with fail
                  go_upto_region 31 with fail
                  have hd := (Keeps.refl NoS wc).drew
                  have hXd := HX2.out.no hd
                  clear cA lA c5 hl m0 m1 m2 m3 m4 hBl
                  refine wp_region_held_drew (S := (fun w' => w'.cell? ⟨A, k, none⟩ = some (.pointer (some ⟨U0, 0, none⟩)) ∧ A < w'.heap.size ∧ B < w'.heap.size ∧ w'.cell? ⟨B, 0, none⟩ = some (.int .i64 3) ∧ w'.cell? ⟨B, 1, none⟩ = some (.int .i64 1) ∧ w'.cell? ⟨B, 2, none⟩ = some (.int .i64 3) ∧ w'.cell? ⟨B, 3, none⟩ = some (.int .i64 0) ∧ w'.cell? ⟨B, 4, none⟩ = some (.int .i64 4))) (by kernel_rfl) ((hXd.s31 hk3 HEX.out HU0.out)) (fun hHeld => ?_)
                  refine wpAnyH_take (i := 0) (v := ?_) (by simp only [List.getElem?_toArray, List.getElem?_cons_succ, List.getElem?_cons_zero]; rfl) (by kernel_rfl) (by kernel_rfl) (by kernel_rfl) (by exact fun _ _ _ h => h) (Or.inl ⟨by rfl, ?_⟩) hHeld ?_
                  rotate_left
                  · intro w hSw; (try dsimp only at hSw); go_simp; (try with_reducible rfl)
                  try simp only [Act.put, List.setIfInBounds_toArray, List.set_cons_zero, List.set_cons_succ]
                  refine wpAnyH_take (i := 1) (v := ?_) (by simp only [List.getElem?_toArray, List.getElem?_cons_succ, List.getElem?_cons_zero]; rfl) (by kernel_rfl) (by kernel_rfl) (by kernel_rfl) (by exact fun _ _ _ h => h) (Or.inl ⟨by rfl, ?_⟩) hHeld ?_
                  rotate_left
                  · intro w hSw; (try dsimp only at hSw); go_simp; (try with_reducible rfl)
                  try simp only [Act.put, List.setIfInBounds_toArray, List.set_cons_zero, List.set_cons_succ]
                  refine wpAnyH_take (i := 2) (v := ?_) (by simp only [List.getElem?_toArray, List.getElem?_cons_succ, List.getElem?_cons_zero]; rfl) (by kernel_rfl) (by kernel_rfl) (by kernel_rfl) (by exact fun _ _ _ h => h) (Or.inl ⟨by rfl, ?_⟩) hHeld ?_
                  rotate_left
                  · intro w hSw; (try dsimp only at hSw); go_simp; (try with_reducible rfl)
                  try simp only [Act.put, List.setIfInBounds_toArray, List.set_cons_zero, List.set_cons_succ]
                  refine wpAnyH_take (i := 3) (v := ?_) (by simp only [List.getElem?_toArray, List.getElem?_cons_succ, List.getElem?_cons_zero]; rfl) (by kernel_rfl) (by kernel_rfl) (by kernel_rfl) (by exact fun _ _ _ h => h) (Or.inl ⟨by rfl, ?_⟩) hHeld ?_
                  rotate_left
                  · intro w hSw; (try dsimp only at hSw); go_simp; (try with_reducible rfl)
                  try simp only [Act.put, List.setIfInBounds_toArray, List.set_cons_zero, List.set_cons_succ]
                  refine wpAnyH_take (i := 4) (v := ?_) (by simp only [List.getElem?_toArray, List.getElem?_cons_succ, List.getElem?_cons_zero]; rfl) (by kernel_rfl) (by kernel_rfl) (by kernel_rfl) (by exact fun _ _ _ h => h) (Or.inl ⟨by rfl, ?_⟩) hHeld ?_
                  rotate_left
                  · intro w hSw; (try dsimp only at hSw); go_simp; (try with_reducible rfl)
                  try simp only [Act.put, List.setIfInBounds_toArray, List.set_cons_zero, List.set_cons_succ]
                  refine wpAnyH_ready (rs := [5]) (by kernel_rfl) (by simp) ?_
                  refine AllReadyH.cons (by simp only [List.getElem?_toArray, List.getElem?_cons_succ, List.getElem?_cons_zero]; rfl) (fun kC hkC => ?_) AllReadyH.nil
                  go_simp
                  rw [← HU0.out]; refine (rnext_any (hXd.rn k hk3 HEX.out) HTT.out.1 HTT.out.2.1 HTT.out.2.2).mono ?_; rintro e w5 ⟨rfl, hP5⟩; obtain ⟨G2, hGU, hw5⟩ := hXd.step hk3 HEX.out hP5
                  (try go_wp2_with fail)
                  refine hkC.out _ _ ((hw5.s31 hk3 HEX.out (hGU.trans HU0.out))) (fun hHeld => ?_)
                  clear hkC kC
                  try simp only [Act.put, List.setIfInBounds_toArray, List.set_cons_zero, List.set_cons_succ]
                  refine wpAnyH_done (by kernel_rfl) ?_ _
                  have hSY := HST.out; have hRD := HRD.out
                  clear HST HRD hP5 hHeld hXd hd hGU HN HTT HX2
                  obtain ⟨⟨M2, t2, u2⟩, hz⟩ : ∃ z, nextU M (T' k) (U' k) = z := ⟨_, rfl⟩
                  rw [hz] at hw5 hSY hRD
                  clear hz
                  dsimp only at hw5 hSY hRD
                  have HSY := Lib.hid hSY; have HW5 := Lib.hid hw5; have HRD := Lib.hid hRD
                  have cA := hw5.cP hk3 HEX.out
                  have lA := (hw5.cA hk3).2.2
                  have hN := hw5.rn k hk3 HEX.out
                  rw [put3_eq, put3_eq] at hN
                  have hl := hN.lt
                  obtain ⟨rp, rc, hrv⟩ := hN.rsl
                  have c5 := hN.c 5 (z := (G2 k).rdv) rfl
                  have HOW := Lib.hid (owns_words hN.rd)
                  rw [hrv] at c5
                  have HRV := Lib.hid hrv
                  obtain ⟨U2, hU2⟩ : ∃ z, (G2 k).U = z := ⟨_, rfl⟩
                  rw [hU2] at cA c5 hl
                  clear hSY hRD hw5 hN hrv hU2 HU0
                  obtain ⟨nr, hnr⟩ : ∃ z, u2.rd.length = z := ⟨_, rfl⟩
                  rw [hnr] at c5
                  have HNR := Lib.hid hnr
                  clear hnr
                  obtain ⟨W5, hW5⟩ : ∃ z, z = w5 := ⟨_, rfl⟩
                  subst hW5
                  go_upto_region 32 with fail
                  go_cut [178] (fun bv wx => ∃ b : Bool, bv = .bool b ∧ wx = W5 ∧ (b = true → nr = 4 ∧ was = 3))
                  case first =>
                    by_cases hkz : k = 0
                    · subst hkz
                      by_cases h4 : nr = 4
                      · subst h4
                        by_cases h3 : was = 3
                        · subst h3
                          go_wp2_with fail
                          go_meet
                          exact ⟨true, rfl, rfl, by simp⟩
                        · have e3 : ((was : Int) == 3) = false := by simp; omega
                          go_wp2_with fail
                          go_meet
                          exact ⟨false, rfl, rfl, fun e => by cases e⟩
                      · have e4 : ((nr : Int) == 4) = false := by simp; omega
                        go_wp2_with fail
                        go_meet
                        exact ⟨false, rfl, rfl, fun e => by cases e⟩
                    · have ek : ((k : Int) == 0) = false := by simp; omega
                      go_wp2_with fail
                      go_meet
                      exact ⟨false, rfl, rfl, fun e => by cases e⟩
                  case rest =>
                    obtain ⟨b, rfl, hwx, hb⟩ := hcut
                    have hwx := hwx.symm
                    subst hwx
                    cases b with
                    | false =>
                      clear hb c5 cA lA hl
                      go_wp2_with fail
                      go_roundg (L1.length + 300 - (i + 1))
                      case measure => omega
                      case rel => exact ⟨i + 1, n', sums, M2, G2, _, _, P', ex', by omega, by go_num, rfl, by omega, HW5.out, HSY.out, H40.out, by omega⟩
                    | true =>
                      obtain ⟨h4, h3⟩ := hb rfl
                      subst h4
                      have HSUM := Lib.hid (show rdSum u2.rd = 40 from by
                        have q := HRD.out
                        rcases q with q | q
                        · have z1 := HNR.out; have z2 := HWAS.out; rw [q] at z1; omega
                        · exact q HNR.out)
                      clear hb h3 HRD HWAS
                      have HCC := Lib.hid (show ∀ w', Keeps NoS W5 w' → w'.cell? ⟨A, k, none⟩ = some (.pointer (some ⟨U2, 0, none⟩)) ∧ w'.cell? ⟨U2, 5, none⟩ = some (.slice rp 4 rc) ∧ A < w'.heap.size ∧ U2 < w'.heap.size from fun w' q => ⟨q.cell cA (fun f => f), q.cell c5 (fun f => f), Nat.lt_of_lt_of_le lA q.size, Nat.lt_of_lt_of_le hl q.size⟩)
                      clear cA c5 lA hl
                      go_wp2_with fail
                      go_loopw [22, 23] (fun sv jv wr => ∃ j : Nat, j ≤ 4 ∧ jv = .int .i64 j ∧ sv = .int .i64 (rdSum (u2.rd.take j)) ∧ Keeps NoS W5 wr) (fun _ j _ => 4 - (intOf j).toNat)
                      case atStart => exact ⟨0, by omega, rfl, rfl, Keeps.refl _ _⟩
                      case round =>
                        obtain ⟨j, hj, rfl, rfl, hkj⟩ := hrel
                        obtain ⟨d0, d1, d2, d3⟩ := HCC.out _ hkj
                        by_cases hlt : j < 4
                        · have e1 : decide ((j : Int) < 4) = true := decide_eq_true (by omega)
                          rcases HOW.out with ⟨_, hv⟩ | ⟨g, cap, hvv, hgl, hgf, hcs⟩
                          · have := HNR.out; rw [hv] at this; exact absurd this (by simp)
                          rw [HRV.out] at hvv
                          injection hvv with hv1 hv2 hv3
                          subst hv1 hv3
                          have hjl : j < u2.rd.length := by rw [HNR.out]; exact hlt
                          have f1 := hkj.cell (hcs j hjl).2 (fun f => f)
                          have HS := Lib.hid (rdSum_take u2.rd j hjl)
                          clear hcs hgf hv2
                          have k0' : (0 : Int) ≤ (j : Int) := by omega
                          have k1' : (j : Int) < 4 := by omega
                          obtain ⟨z0, hz0⟩ : ∃ z, rdSum (u2.rd.take j) = z := ⟨_, rfl⟩
                          rw [hz0] at HS ⊢
                          obtain ⟨q, hq⟩ : ∃ q, u2.rd.getD j (0, 0) = q := ⟨_, rfl⟩
                          obtain ⟨qa, qv⟩ := q
                          rw [hq] at f1 HS
                          dsimp only at f1
                          clear hz0 hq
                          go_wp2_with fail
                          go_roundw
                          case measure => simp [intOf]; omega
                          case rel => exact ⟨j + 1, by omega, by go_num, by rw [HS.out, ← wrap_w], hkj⟩
                        · have e1 : decide ((j : Int) < 4) = false := decide_eq_false (by omega)
                          have hj4 : u2.rd.take j = u2.rd := by rw [List.take_of_length_le]; have := HNR.out; omega
                          rw [hj4, HSUM.out]
                          clear hj4 d0 d1 d2 d3
                          have hw6 := HW5.out.no hkj
                          have HW6 := Lib.hid hw6
                          clear hw6
                          obtain ⟨iT, hiT⟩ := rdT
                          have HIT := Lib.hid hiT
                          clear hiT
                          obtain ⟨W6, hW6⟩ : ∃ z, z = wr := ⟨_, rfl⟩
                          subst hW6
                          go_upto_region 38 with fail
                          have HXA := Lib.hid (HW6.out.no ((Keeps.refl NoS W6).alloc (.cells #[.int .i64 40] 2)))
                          go_wp2_with (at_builtin; refine wpList_row1 HIT.out _ rfl (.tmp 195) (.tmp 197) rfl w.heap.size _ sums rfl HXA.out.sm W6.heap.size _ 40 rfl (by have h := cells_new W6 [.int .i64 40] 2 0 (.int .i64 40) rfl; rwa [add_zero_off] at h) (by omega) HXA.out.kp.size ?_; intro vA wA hr hg hb; have hwA := HXA.out.grow ((Keeps.refl (fun g => u13.ownBlock = some g) _).grown hg (fun _ e _ => e)) hr (fun g e => (hb g e).imp id (fun e => Nat.le_of_eq e.symm)))
                          go_roundg (L1.length + 300 - (i + 1))
                          case measure => omega
                          case rel => exact ⟨i + 1, n', sums ++ [40], M2, G2, _, _, P', ex', by omega, by go_num, rfl, by omega, hwA, HSY.out, fun z hz => (List.mem_append.1 hz).elim (H40.out z) (fun e => by simpa using e), by simp; omega⟩
        · have hil : i = L1.length + 300 := by omega
          as_aux_lemma =>
            have e1 : decide ((i : Int) < (L1.length : Int) + 300) = false := decide_eq_false (by omega)
            have hlast := HS.out
            rw [hil] at hlast
            have HLS := Lib.hid hlast.last
            have hsl5 : sums.length ≤ 500 := by omega
            clear hlast hil
            obtain ⟨W9, hW9⟩ : ∃ z, z = wr := ⟨_, rfl⟩
            subst hW9
            go_wp2_with fail
            go_loopw [24, 25] (fun sv dv wq => ∃ d : Nat, d ≤ 4 ∧ sv = .int .i64 (sumM M d) ∧ dv = .int .i64 d ∧ Keeps NoS W9 wq) (fun _ d _ => 4 - (intOf d).toNat)
            case atStart => exact ⟨0, by omega, rfl, rfl, Keeps.refl _ _⟩
            case round =>
              obtain ⟨d, hd, rfl, rfl, hkd⟩ := hrel
              have hx := HX.out.no hkd
              have HX9 := Lib.hid hx
              have k0 : (0 : Int) ≤ (d : Int) := by omega
              by_cases hlt : d < 4
              · have e1 : decide ((d : Int) < 4) = true := decide_eq_true (by omega)
                obtain ⟨m0, m1, m2, m3, m4⟩ := hx.mp
                have hBl := hx.hi .mp B rfl
                obtain ⟨z0, hz0⟩ : ∃ z, sumM M d = z := ⟨_, rfl⟩
                have HSU := Lib.hid (show sumM M (d + 1) = wrap64 (z0 + M.atP (dA d)) by rw [← hz0]; rfl)
                rw [hz0]
                clear hx hz0
                go_wp2_with (first
                  | (go_at_call 20; refine (dataAt_lit 3 1 3 0 4 d (dA d) rfl _).mono ?_; rintro e w7 ⟨rfl, hk7⟩; have hx7 := HX9.out.no hk7)
                  | (go_at_call 18; refine (peek_tot a v M (dA d) _ hx7.mm).mono ?_; rintro e w8 ⟨rfl, hw8⟩; subst hw8))
                go_roundw
                case measure => simp [intOf]; omega
                case rel => exact ⟨d + 1, by omega, by rw [HSU.out, ← wrap_w], by go_num, hkd.trans hk7⟩
              · have e1 : decide ((d : Int) < 4) = false := decide_eq_false (by omega)
                have hs4 : sumM M d = 40 := by
                  have e : d = 4 := by omega
                  rw [e]; exact sumM4 M HLS.out.1
                rw [hs4]
                clear hs4 hx
                obtain ⟨W8, hW8⟩ : ∃ z, z = wr := ⟨_, rfl⟩
                subst hW8
                go_wp2_with fail
                go_loopw [26] (fun tv wq => ∃ t : Nat, t ≤ 3 ∧ tv = .int .i64 t ∧ Keeps NoS W8 wq) (fun t _ => 3 - (intOf t).toNat)
                case atStart => exact ⟨0, by omega, rfl, Keeps.refl _ _⟩
                case round =>
                  obtain ⟨t, ht, rfl, hkt⟩ := hrel
                  have hx := HX9.out.no hkt
                  have HXT := Lib.hid hx
                  by_cases hlt2 : t < 3
                  · have e2 : decide ((t : Int) < 3) = true := decide_eq_true (by omega)
                    have t0 : (0 : Int) ≤ (t : Int) := by omega
                    have t1 : (t : Int) < 3 := by omega
                    obtain ⟨hfin, hph⟩ := HLS.out.2 t hlt2
                    obtain ⟨pa, hpa⟩ : ∃ z, 11 + 2 * (t : Int) = z := ⟨_, rfl⟩
                    rw [hpa] at hph
                    have HPA := Lib.hid (show threadP ⟨3, 1, 3, 0, 4⟩ (t : Int) 0 = pa by
                      rw [← hpa]
                      rcases (show t = 0 ∨ t = 1 ∨ t = 2 by omega) with rfl | rfl | rfl <;> kernel_rfl)
                    have HPH := Lib.hid hph
                    have fA := (hx.cA hlt2).2.1; have lA := (hx.cA hlt2).2.2
                    obtain ⟨m0, m1, m2, m3, m4⟩ := hx.mp
                    have hBl := hx.hi .mp B rfl
                    clear hpa hph
                    cases hext : ex t with
                    | false =>
                      have cA := hx.cN hlt2 hext
                      clear hx hext
                      go_wp2_with (first
                        | (go_at_call 23; refine (threadAt_lit 3 1 3 0 4 t 0 pa HPA.out _).mono ?_; rintro e w7 ⟨rfl, hk7⟩; have hx7 := HXT.out.no hk7)
                        | (go_at_call 18; refine (peek_tot a v M pa _ hx7.mm).mono ?_; rw [HPH.out]; rintro e w8 ⟨rfl, hw8⟩; subst hw8))
                      go_roundw
                      case measure => simp [intOf]; omega
                      case rel => exact ⟨t + 1, by omega, by go_num, hkt.trans hk7⟩
                    | true =>
                      have cA := hx.cP hlt2 hext
                      have hN := hx.rn t hlt2 hext
                      have c4 := hN.c 4 (z := .int .i64 (U t).fin) rfl
                      have hl := hN.lt
                      have ef : ((U t).fin == 0) = false := by simpa using hfin
                      clear hx hext hN hfin
                      go_wp2_with (first
                        | (go_at_call 23; refine (threadAt_lit 3 1 3 0 4 t 0 pa HPA.out _).mono ?_; rintro e w7 ⟨rfl, hk7⟩; have hx7 := HXT.out.no hk7)
                        | (go_at_call 18; refine (peek_tot a v M pa _ hx7.mm).mono ?_; rw [HPH.out]; rintro e w8 ⟨rfl, hw8⟩; subst hw8))
                      go_roundw
                      case measure => simp [intOf]; omega
                      case rel => exact ⟨t + 1, by omega, by go_num, hkt.trans hk7⟩
                  · have e2 : decide ((t : Int) < 3) = false := decide_eq_false (by omega)
                    clear hx
                    go_wp2_with fail
                    exact bodyPost_ret (v := .tuple #[u13, .bool true]) (by simp [results, Try.results8, go_sem]) rfl ⟨_, _, rfl, HXT.out.sm, H40.out, hsl5, HXT.out.kp⟩
set_option maxHeartbeats 8000000 in
set_option maxRecDepth 100000 in
theorem norecReads_walk (w : World) (a0 : Int) (_w0 : (Lit.int .i64 a0).wf = true) (v1 : Value) (L1 : List Int) (h1 : InI w v1 L1) (_f1 : ∀ k, k < L1.length → (Lit.int .i64 (L1.getD k 0)).wf = true) (v2 : Value) (L2 : List Int) (h2 : InI w v2 L2) (_f2 : ∀ k, k < L2.length → (Lit.int .i64 (L2.getD k 0)).wf = true) : Calls Try.prog 3 #[.int .i64 a0, v1, v2] w fun e w' => e = .returned (.bool true) ∧ Keeps NoS w w' := by
  have H1 := Lib.hid h1; have H2 := Lib.hid h2
  obtain ⟨p1, cap1, rfl, hmx1, hc1, _⟩ := h1
  obtain ⟨p2, cap2, rfl, hmx2, hc2, _⟩ := h2
  clear hc1 hc2
  go_enter Try.func3, Try.ntmps3
  by_cases hl1 : L1.length ≤ 200
  · have e1 : decide ((200 : Int) < (L1.length : Int)) = false := decide_eq_false (by omega)
    by_cases hl2 : L2.length ≤ 50
    · have e2 : decide ((50 : Int) < (L2.length : Int)) = false := decide_eq_false (by omega)
      go_upto_region 4 with (go_at_call 8; refine (together_any w _ _ _ L1 L2 H1.out H2.out hl1 hl2).mono ?_; rintro e w1 ⟨sv, sums, rfl, hr, h40, hle, hk⟩)
      obtain ⟨sp, sc, hsv⟩ := hr.slice
      subst hsv
      have HR := Lib.hid hr; have H40 := Lib.hid h40; have HK := Lib.hid hk
      clear hr h40 hk H1 H2
      go_wp2_with fail
      go_loopw [9] (fun iv wr => ∃ i : Nat, i ≤ sums.length ∧ iv = .int .i64 i ∧ Keeps NoS w1 wr) (fun i _ => sums.length - (intOf i).toNat)
      case atStart => exact ⟨0, by omega, rfl, Keeps.refl _ _⟩
      case round =>
        obtain ⟨i, hi, rfl, hki⟩ := hrel
        by_cases hlt : i < sums.length
        · have e3 : decide ((i : Int) < (sums.length : Int)) = true := by simpa using hlt
          obtain ⟨g, c, hv, _, hgl, _, _, hcs⟩ := HR.out.form (by omega)
          injection hv with hv1 hv2 hv3
          subst hv1 hv3
          have z40 : sums.getD i 0 = 40 := by
            rw [List.getD_eq_getElem?_getD, List.getElem?_eq_getElem hlt]
            exact H40.out _ (List.getElem_mem hlt)
          have cc := hki.cell (hcs i hlt) (fun f => f)
          rw [z40] at cc
          have k0 : (0 : Int) ≤ (i : Int) := by omega
          have k1 : (i : Int) < (sums.length : Int) := by omega
          clear z40 hcs hv2
          go_wp2_with fail
          go_roundw
          case measure => simp [intOf]; omega
          case rel => exact ⟨i + 1, by omega, by go_num, hki⟩
        · have e3 : decide ((i : Int) < (sums.length : Int)) = false := decide_eq_false (by omega)
          go_wp2_with (go_at_call 7; refine (told16_any _).mono ?_; rintro e wt ⟨rfl, hkt⟩)
          go_ret
          exact ⟨rfl, (HK.out.trans hki).trans hkt⟩
    · have e2 : decide ((50 : Int) < (L2.length : Int)) = true := decide_eq_true (by omega)
      go_wp2_with (go_at_call 7; refine (told16_any _).mono ?_; rintro e wt ⟨rfl, hkt⟩)
      go_ret
      exact ⟨rfl, hkt⟩
  · have e1 : decide ((200 : Int) < (L1.length : Int)) = true := decide_eq_true (by omega)
    go_wp2_with (go_at_call 7; refine (told16_any _).mono ?_; rintro e wt ⟨rfl, hkt⟩)
    go_ret
    exact ⟨rfl, hkt⟩
end Go.Proofs.Ytfmamedkiaimpaa
