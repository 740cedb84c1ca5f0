/- Rows of stripes: the walk of stripe.Rows. -/
import Derived.Test.YtiomicjfbbkbaaaHRows
namespace Go.Proofs.Ytiomicjfbbkbaaa
open Go.RowKit
theorem bools_cells {w : World} {A : Nat} {f : Nat → Bool} {T : TypeId} (h : w.heap[A]? = some (.cells (boolsA f) T (0, 0))) (j : Nat) (hj : j < 16) : w.cell? ⟨A, j, none⟩ = some (.bool (f j)) := by
  rw [blk_cell h, boolsA_get f j hj]
theorem MapAt.keepS {S : Nat → Prop} {w w' : World} {b : Nat} {ms ml mt mc md : Int} (h : MapAt w b ms ml mt mc md) (k : Keeps S w w') (hb : ¬ S b) : MapAt w' b ms ml mt mc md :=
  ⟨k.cell h.1 hb, k.cell h.2.1 hb, k.cell h.2.2.1 hb, k.cell h.2.2.2.1 hb, k.cell h.2.2.2.2 hb⟩
theorem infoInt : (Try.prog.info? 3).map (fun i => (i.zero, i.size, i.bytes)) = some (some (.int .i64 0), 1, 8) := by kernel_rfl
theorem rows_loop {m : MapS} {L : List Int} {k : Nat} (h : k < L.length) (a : Int) (ha : L.getD k 0 = a) :
    (hashV m a < 0 ∨ (0 ≤ hashV m a ∧ hitB m (L.take k) (hashV m a) = true) → boolsA (fun j => hitB m (L.take (k + 1)) (j : Int)) = boolsA (fun j => hitB m (L.take k) (j : Int))) ∧
    (∀ r : Nat, hashV m a = (r : Int) → (boolsA (fun j => hitB m (L.take k) (j : Int))).setIfInBounds r (.bool true) = boolsA (fun j => hitB m (L.take (k + 1)) (j : Int))) := by
  subst ha
  constructor
  · intro h1
    apply boolsA_same
    intro j _
    rw [hitB_succ m L k h]
    rcases h1 with h1 | ⟨h1, h2⟩
    · rw [beq_eq_false_iff_ne.2 (by omega), Bool.or_false]
    · by_cases e : hashV m (L.getD k 0) = (j : Int)
      · rw [← e, h2]; rfl
      · rw [beq_eq_false_iff_ne.2 e, Bool.or_false]
  · intro r hr
    apply boolsA_set
    intro j
    rw [hitB_succ m L k h, hr]
    congr 1
    rw [Bool.eq_iff_iff]
    simp only [beq_iff_eq, decide_eq_true_eq]
    omega
set_option maxHeartbeats 1000000 in
set_option maxRecDepth 100000 in
theorem rows_any (m : MapS) (v : Value) (L : List Int) (w : World) (hv : InI w v L) : Calls Try.prog 10 #[mapV m, v] w fun e w' => ∃ u, e = .returned u ∧ RowI w' u (rowsZ m L 16) ∧ Keeps NoS w w' := by
  obtain ⟨p, cap, rfl, hn, hd, _⟩ := hv
  have HD := Lib.hid hd
  clear hd
  obtain ⟨i0, hi, hz0, hz1, hz2⟩ := info_parts infoInt
  obtain ⟨ms, ml, mt, mc, md⟩ := m
  unfold mapV; dsimp only
  go_enter Try.func10, Try.ntmps10
  go_wp2_with fail
  have hm0 := (mapAt_new w ms ml mt mc md 26).keep ((Keeps.refl NoS _).alloc (.cells (boolsA fun _ => false) 54))
  have hb0 := heap_alloc_new (w.alloc (.cells #[.int .i64 ms, .int .i64 ml, .int .i64 mt, .int .i64 mc, .int .i64 md] 26)) (.cells (boolsA fun _ => false) 54)
  have hs0 : (w.alloc (.cells #[.int .i64 ms, .int .i64 ml, .int .i64 mt, .int .i64 mc, .int .i64 md] 26)).heap.size = w.heap.size + 1 := by simp
  rw [hs0] at hb0
  have hk0 := ((Keeps.refl NoS w).alloc (.cells #[.int .i64 ms, .int .i64 ml, .int .i64 mt, .int .i64 mc, .int .i64 md] 26)).alloc (.cells (boolsA fun _ => false) 54)
  have HM := Lib.hid hm0; have HB := Lib.hid hb0; have HK := Lib.hid hk0
  clear hm0 hb0 hk0 hs0
  go_loopw [14] (fun i wr => ∃ k : Nat, k ≤ L.length ∧ i = .int .i64 k ∧ wr.heap[w.heap.size + 1]? = some (.cells (boolsA fun j => hitB ⟨ms, ml, mt, mc, md⟩ (L.take k) (j : Int)) 54 (0, 0)) ∧ MapAt wr w.heap.size ms ml mt mc md ∧ Keeps NoS w wr) (fun i _ => L.length - (intOf i).toNat)
  case atStart => exact ⟨0, Nat.zero_le _, rfl, HB.out, HM.out, HK.out⟩
  case round =>
    obtain ⟨k, hk, rfl, hblk, hmp, hkp⟩ := hrel
    by_cases hlt : k < L.length
    · obtain ⟨b, off, rfl, hc⟩ := HD.out (fun e => by rw [e] at hlt; exact absurd hlt (by simp))
      obtain ⟨x, hx⟩ : ∃ x, L.getD k 0 = x := ⟨_, rfl⟩
      have c0 := hkp.cell (hc k hlt) (fun f => f)
      rw [hx] at c0
      obtain ⟨st1, st2⟩ := rows_loop (m := ⟨ms, ml, mt, mc, md⟩) hlt x hx
      obtain ⟨h, hh⟩ : ∃ h, hashV ⟨ms, ml, mt, mc, md⟩ x = h := ⟨_, rfl⟩
      have hb := @hash_lt ⟨ms, ml, mt, mc, md⟩ x
      rw [hh] at hb st1 st2
      obtain ⟨hb1, hb2, _⟩ := hb
      have HH := Lib.hid hh; have S1 := Lib.hid st1; have S2 := Lib.hid st2; have HBL := Lib.hid hblk; have HKP := Lib.hid hkp; have HMP := Lib.hid hmp
      obtain ⟨m0, m1, m2, m3, m4⟩ := hmp
      clear hh st1 st2 hblk hkp hc hx
      by_cases hneg : h < 0
      · go_wp2_with (go_at_call 13; refine (hash_lit ms ml mt mc md x h HH.out _).mono ?_; rintro e w1 ⟨rfl, hk1⟩)
        go_roundw
        case rel => exact ⟨k + 1, by omega, by go_num, by rw [S1.out (.inl hneg)]; exact hk1.blk HBL.out (fun f => f), HMP.out.keep hk1, HKP.out.trans hk1⟩
        case measure => simp [intOf]; omega
      · obtain ⟨r, rfl⟩ : ∃ r : Nat, h = (r : Int) := ⟨h.toNat, by omega⟩
        have hr16 : r < 16 := by omega
        obtain ⟨bt, hbt⟩ : ∃ bt, hitB ⟨ms, ml, mt, mc, md⟩ (L.take k) (r : Int) = bt := ⟨_, rfl⟩
        have d0 := bools_cells HBL.out r hr16
        rw [hbt] at d0
        have fz := blk_free HBL.out r
        have hsz := blk_lt HBL.out
        have HBT := Lib.hid hbt
        have hr0 : ¬ (r : Int) < 0 := by omega
        clear hbt hb1 hb2 hneg
        cases bt
        all_goals
          go_wp2_with (go_at_call 13; refine (hash_lit ms ml mt mc md x r HH.out _).mono ?_; rintro e w1 ⟨rfl, hk1⟩; have hb1 := Lib.hid (hk1.blk HBL.out (fun f => f)); have d1 := hk1.cell d0 (fun f => f); have fz1 := blk_free hb1.out r; have sz1 := blk_lt hb1.out)
          go_roundw
          case rel =>
            have hbs := blk_set hb1.out r (.bool true)
            rw [S2.out r rfl] at hbs
            have hmk := HMP.out.keep hk1
            exact ⟨k + 1, by omega, by go_num, hbs, hmk.keepS ((Keeps.refl (fun i => i = w.heap.size + 1) w1).setCell (fun _ => rfl) _) (by omega), ((HKP.out.trans hk1)).setCell (fun h => by have h' : w.heap.size + 1 < w.heap.size := h; omega) _⟩
          case measure => simp [intOf]; omega
    · have hke : k = L.length := by omega
      subst hke
      rw [List.take_length] at hblk
      obtain ⟨f, hf⟩ : ∃ f : Nat → Bool, (fun j : Nat => hitB ⟨ms, ml, mt, mc, md⟩ L (j : Int)) = f := ⟨_, rfl⟩
      rw [hf] at hblk
      have HF := Lib.hid hf
      have e0 := bools_cells hblk 0 (by decide)
      have e1 := bools_cells hblk 1 (by decide)
      have e2 := bools_cells hblk 2 (by decide)
      have e3 := bools_cells hblk 3 (by decide)
      have e4 := bools_cells hblk 4 (by decide)
      have e5 := bools_cells hblk 5 (by decide)
      have e6 := bools_cells hblk 6 (by decide)
      have e7 := bools_cells hblk 7 (by decide)
      have e8 := bools_cells hblk 8 (by decide)
      have e9 := bools_cells hblk 9 (by decide)
      have e10 := bools_cells hblk 10 (by decide)
      have e11 := bools_cells hblk 11 (by decide)
      have e12 := bools_cells hblk 12 (by decide)
      have e13 := bools_cells hblk 13 (by decide)
      have e14 := bools_cells hblk 14 (by decide)
      have e15 := bools_cells hblk 15 (by decide)
      have HKP := Lib.hid hkp
      clear hf hblk hkp hmp HM HB HK HD
      go_wp2_with fail
      clear e0 e1 e2 e3 e4 e5 e6 e7 e8 e9 e10 e11 e12 e13 e14 e15
      go_loopw [9, 32] (fun u i wq => ∃ j : Nat, j ≤ 16 ∧ i = .int .i64 j ∧ wq.ownsRow 0 3 1 u (rowsZ ⟨ms, ml, mt, mc, md⟩ L j).length (vals (rowsZ ⟨ms, ml, mt, mc, md⟩ L j)) ∧ (∀ g, u.ownBlock = some g → w.heap.size ≤ g) ∧ Keeps NoS w wq) (fun _ i _ => 16 - (intOf i).toNat)
      case atStart => exact ⟨0, by omega, rfl, World.ownsRow_nil _ _ _ _, by simp [Value.ownBlock], HKP.out⟩
      case round =>
        obtain ⟨j, hj, rfl, hown, hnew, hkq⟩ := hrel
        by_cases hj16 : j < 16
        · have hix := ix16 f j hj16
          have hsucc := Lib.hid (rowsZ_succ ⟨ms, ml, mt, mc, md⟩ L j)
          have hlen := rowsZ_len ⟨ms, ml, mt, mc, md⟩ L j
          have hfj : f j = hitB ⟨ms, ml, mt, mc, md⟩ L (j : Int) := by rw [← HF.out]
          obtain ⟨q, hq⟩ : ∃ q, f j = q := ⟨_, rfl⟩
          rw [hq] at hix
          have hqq : hitB ⟨ms, ml, mt, mc, md⟩ L (j : Int) = q := by rw [← hfj, hq]
          have HQ := Lib.hid hqq
          clear hfj hq hqq
          generalize hR : rowsZ ⟨ms, ml, mt, mc, md⟩ L j = R at *
          cases q with
          | true =>
            have d2 : ∀ u ∈ [Value.int .i64 (j : Int)], u.oneCell' = true := by simp [Value.oneCell']
            have b3 : R.length + 1 ≤ maxLen := by unfold maxLen; omega
            go_wp2_with (at_builtin; refine wpList_append_fp _ rfl _ _ 23 rfl 3 i0 (.int .i64 0) 1 8 Try.underlying23 hi hz0 hz1 hz2 rfl (by decide) _ R.length (vals R) rfl (hown.alloc _) ⟨_, 0, none⟩ 1 1 [.int .i64 (j : Int)] rfl rfl (cells_new _ _ _) d2 b3 (by omega) ?_; intro u' w3 hown' hgr hob)
            go_roundw
            case rel =>
              have e1 : rowsZ ⟨ms, ml, mt, mc, md⟩ L (j + 1) = R ++ [(j : Int)] := by rw [hsucc.out, HQ.out]; rfl
              refine ⟨j + 1, by omega, by go_num, ?_, fun g hg => (hob g hg).elim (hnew g) (fun h => by have := hkq.size; simp at h; omega), (hkq.alloc _).grown hgr (fun g hg hl => by have := hnew g hg; omega)⟩
              rw [e1, List.length_append]
              simpa [vals] using hown'
            case measure => simp [intOf]; omega
          | false =>
            go_wp2_with fail
            go_roundw
            case rel => exact ⟨j + 1, by omega, by go_num, by rw [hsucc.out, HQ.out]; simpa using hown, hnew, hkq⟩
            case measure => simp [intOf]; omega
        · obtain rfl : j = 16 := by omega
          have hlen := rowsZ_len ⟨ms, ml, mt, mc, md⟩ L 16
          obtain ⟨R, hR⟩ : ∃ R, rowsZ ⟨ms, ml, mt, mc, md⟩ L 16 = R := ⟨_, rfl⟩
          rw [hR] at hown hlen
          have HR := Lib.hid hR
          clear hR
          clear hi hz0 hz1 hz2
          go_wp2_with (go_at_call 28; refine (clip_row hown hlen).mono ?_; rintro e w5 ⟨u5, rfl, hr5, rfl⟩)
          go_ret
          exact ⟨_, rfl, by rw [HR.out]; exact hr5, hkq⟩
end Go.Proofs.Ytiomicjfbbkbaaa
