/- The document's RwTake, RwDrop at layer 8's map. -/
import Derived.Test.YtjchcmomppfilaaRwFits
import Derived.Test.YtjchcmomppfilaaMcsAll
namespace Go.Proofs.Ytjchcmomppfilaa
open Go.RowKit
set_option maxHeartbeats 20000000 in
set_option maxRecDepth 100000 in
theorem rrwtake8_no (t l s : Int) (r : Bool) (x : Int) (a : Nat) (v : Value) (M : MemS) (w : World) (hok : okH t l = false) (hA : RefAt w a v M) (hl48 : M.L.length = 48) : Calls Try.prog 46 #[.agg #[.int .i64 2, .int .i64 2, .int .i64 4, .int .i64 0, .int .i64 2], .pointer (some ⟨a, 0, none⟩), .agg #[.int .i64 t, .int .i64 l, .int .i64 s, .bool r, .int .i64 x]] w fun e w' => e = .returned (.agg #[.int .i64 t, .int .i64 l, .int .i64 s, .bool r, .int .i64 x]) ∧ RefAt w' a v M ∧ Keeps (own2m a v) w w' := by
  have HOK := Lib.hid hok
  clear hok
  have hbx := bx_new w 2 2 4 0 2 t l s r x 54
  have hk : Keeps NoS w (((w.alloc (.cells #[.int .i64 2, .int .i64 2, .int .i64 4, .int .i64 0, .int .i64 2] 54)).alloc (.cells #[.int .i64 t, .int .i64 l, .int .i64 s, .bool r, .int .i64 x] 37)).alloc (.cells #[.int .i64 0, .int .i64 0, .int .i64 0, .bool false, .int .i64 0] 37)) := (((Keeps.refl NoS w).alloc _).alloc _).alloc _
  have ha := blk_lt hA.hd
  have hv : ∀ g, v.ownBlock = some g → g < w.heap.size := fun g hg => hA.own_lt hg
  have hA2 := hA.keep hk (fun f => f) (fun _ _ f => f)
  obtain ⟨B, hB⟩ : ∃ B, w.heap.size = B := ⟨_, rfl⟩
  rw [hB] at hbx hv ha
  have HB := Lib.hid hB; have HA2 := Lib.hid hA2; have HK := Lib.hid hk; have HV := Lib.hid hv; have HBX := Lib.hid hbx; have HL := Lib.hid hl48
  clear hB hA2 hk hv hbx hl48 hA
  go_enter Try.func46, Try.ntmps46
  go_wp2_with fail
  (try rw [HB.out])
  refine (rmay8_any t l s r x _).mono ?_
  rw [HOK.out]
  rintro e w1 ⟨rfl, hk1⟩
  have hb1 := HBX.out.no hk1
  have hm1 := HA2.out.keep hk1 (fun f => f) (fun _ _ f => f)
  obtain ⟨⟨m0, m1, m2, m3, m4⟩, ⟨c0, c1, c2, c3, c4⟩, ⟨r0, r1, r2, r3, r4⟩, ⟨f0, f1, f2, f3, f4⟩, ⟨g0, g1, g2, g3, g4⟩, z1, z2⟩ := hb1.facts
  have HB1 := Lib.hid hb1; have HM1 := Lib.hid hm1; have HK1 := Lib.hid (HK.out.trans hk1)
  clear hb1 hm1
  have hm := HM1.out
  have hkk : Keeps (own2m a v) w w1 := HK1.out.no
  go_wp2_with fail
  refine bodyPost_ret (v := .agg #[.int .i64 t, .int .i64 l, .int .i64 s, .bool r, .int .i64 x]) (by simp [results, Try.results46, go_sem, *]) rfl ⟨rfl, ?_, ?_⟩
  · repeat (first | (with_reducible exact hm) | refine MemT.set (B := B) ?_ ha HV.out _ (by show B ≤ _; dsimp only; omega) _)
  · repeat (first | (with_reducible exact hkk) | refine kset HB.out ?_ _ (by show B ≤ _; dsimp only; omega) _)
set_option maxHeartbeats 20000000 in
set_option maxRecDepth 100000 in
theorem rrwtake8_yes (t l : Nat) (s : Int) (r : Bool) (x : Int) (a : Nat) (v : Value) (M : MemS) (w : World) (ht : t < 4) (hl : l < 2) (hA : RefAt w a v M) (hl48 : M.L.length = 48) : Calls Try.prog 46 #[.agg #[.int .i64 2, .int .i64 2, .int .i64 4, .int .i64 0, .int .i64 2], .pointer (some ⟨a, 0, none⟩), .agg #[.int .i64 t, .int .i64 l, .int .i64 s, .bool r, .int .i64 x]] w fun e w' => e = .returned (handV (wTake M t l s r x).2) ∧ RefAt w' a v (wTake M t l s r x).1 ∧ Keeps (own2m a v) w w' := by
  have HOK := Lib.hid (okH_nat ht hl)
  obtain ⟨A, hAA⟩ : ∃ A : Int, ((rdA l : Nat) : Int) = A := ⟨_, rfl⟩
  have hrd := rdA_eq hl
  rw [hAA] at hrd
  have HRD := Lib.hid hrd; have HAA := Lib.hid hAA
  have HRL := Lib.hid (show rdA l < M.L.length by rw [hl48]; exact rdA_lt hl)
  clear hrd hAA
  by_cases hs05 : 0 ≤ s ∧ s ≤ 5
  · obtain ⟨M1, s1, x1, hd⟩ := mTake_hnd M t l s r x
    have HD := Lib.hid hd
    rw [show wTake M t l s r x = (M1, ⟨t, l, if s1 = 9 then 10 else s1, r, x1⟩) by unfold wTake; rw [if_pos hs05, hd]]
    clear hd
    unfold handV
    dsimp only
    by_cases h9 : s1 = 9
    · subst h9
      rw [if_pos rfl]
      have hs : s = 0 ∨ s = 1 ∨ s = 2 ∨ s = 3 ∨ s = 4 ∨ s = 5 := by omega
      clear hs05
      rcases hs with rfl | rfl | rfl | rfl | rfl | rfl
      · have hbx := bx_new w 2 2 4 0 2 t l 0 r x 54
        have hk : Keeps NoS w (((w.alloc (.cells #[.int .i64 2, .int .i64 2, .int .i64 4, .int .i64 0, .int .i64 2] 54)).alloc (.cells #[.int .i64 t, .int .i64 l, .int .i64 0, .bool r, .int .i64 x] 37)).alloc (.cells #[.int .i64 0, .int .i64 0, .int .i64 0, .bool false, .int .i64 0] 37)) := (((Keeps.refl NoS w).alloc _).alloc _).alloc _
        have ha := blk_lt hA.hd
        have hv : ∀ g, v.ownBlock = some g → g < w.heap.size := fun g hg => hA.own_lt hg
        have hA2 := hA.keep hk (fun f => f) (fun _ _ f => f)
        obtain ⟨B, hB⟩ : ∃ B, w.heap.size = B := ⟨_, rfl⟩
        rw [hB] at hbx hv ha
        have HB := Lib.hid hB; have HA2 := Lib.hid hA2; have HK := Lib.hid hk; have HV := Lib.hid hv; have HBX := Lib.hid hbx; have HL := Lib.hid hl48
        clear hB hA2 hk hv hbx hl48 hA
        go_enter Try.func46, Try.ntmps46
        go_wp2_with fail
        (try rw [HB.out])
        refine (rmay8_any t l 0 r x _).mono ?_
        rw [HOK.out]
        rintro e w1 ⟨rfl, hk1⟩
        have hb1 := HBX.out.no hk1
        have hm1 := HA2.out.keep hk1 (fun f => f) (fun _ _ f => f)
        obtain ⟨⟨m0, m1, m2, m3, m4⟩, ⟨c0, c1, c2, c3, c4⟩, ⟨r0, r1, r2, r3, r4⟩, ⟨f0, f1, f2, f3, f4⟩, ⟨g0, g1, g2, g3, g4⟩, z1, z2⟩ := hb1.facts
        have HB1 := Lib.hid hb1; have HM1 := Lib.hid hm1; have HK1 := Lib.hid (HK.out.trans hk1)
        clear hb1 hm1
        go_upto_region 6 with (first
          | (go_at_call 28; refine (rlock_lit 2 2 4 0 2 l 3 _ HRD.out _).mono ?_; rintro e w5 ⟨rfl, hk5⟩; clear m0 m1 m2 m3 m4 c0 c1 c2 c3 c4 r0 r1 r2 r3 r4 f0 f1 f2 f3 f4 g0 g1 g2 g3 g4 z1 z2; have hb5 := HB1.out.no hk5; have hm5 := HM1.out.keep hk5 (fun f => f) (fun _ _ f => f); obtain ⟨⟨m0, m1, m2, m3, m4⟩, ⟨c0, c1, c2, c3, c4⟩, ⟨r0, r1, r2, r3, r4⟩, ⟨f0, f1, f2, f3, f4⟩, ⟨g0, g1, g2, g3, g4⟩, z1, z2⟩ := hb5.facts; have HB5 := Lib.hid hb5; have HM5 := Lib.hid hm5; clear hb5 hm5)
          | (go_at_call 34; have hct := rtake8_yes t l 0 r x a v M _ ht hl HM5.out HL.out; rw [HD.out] at hct; unfold handV at hct; dsimp only at hct; refine hct.mono ?_; clear hct; rintro e w4 ⟨rfl, hm, hk4⟩; have hb4 := HB5.out.own hk4 ha HV.out; clear m0 m1 m2 m3 m4 c0 c1 c2 c3 c4 r0 r1 r2 r3 r4 f0 f1 f2 f3 f4 g0 g1 g2 g3 g4 z1 z2; obtain ⟨⟨m0, m1, m2, m3, m4⟩, ⟨c0, c1, c2, c3, c4⟩, ⟨r0, r1, r2, r3, r4⟩, ⟨f0, f1, f2, f3, f4⟩, ⟨g0, g1, g2, g3, g4⟩, z1, z2⟩ := hb4.facts; have HB4 := Lib.hid hb4; have hkk : Keeps (own2m a v) w w4 := (HK1.out.trans hk5).no.trans hk4; clear hb4))
        have hbN := HB4.out.h5 t l 9 r x1
        have hmN : RefAt (((((w4.setCell ⟨B + 1, 0, none⟩ (.int .i64 t)).setCell ⟨B + 1, 1, none⟩ (.int .i64 l)).setCell ⟨B + 1, 2, none⟩ (.int .i64 9)).setCell ⟨B + 1, 3, none⟩ (.bool r)).setCell ⟨B + 1, 4, none⟩ (.int .i64 x1)) a v M1 := by
          repeat (first | (with_reducible exact hm) | refine MemT.set (B := B) ?_ ha HV.out _ (by show B ≤ _; dsimp only; omega) _)
        have hkN : Keeps (own2m a v) w (((((w4.setCell ⟨B + 1, 0, none⟩ (.int .i64 t)).setCell ⟨B + 1, 1, none⟩ (.int .i64 l)).setCell ⟨B + 1, 2, none⟩ (.int .i64 9)).setCell ⟨B + 1, 3, none⟩ (.bool r)).setCell ⟨B + 1, 4, none⟩ (.int .i64 x1)) := by
          repeat (first | (with_reducible exact hkk) | refine kset HB.out ?_ _ (by show B ≤ _; dsimp only; omega) _)
        generalize (((((w4.setCell ⟨B + 1, 0, none⟩ (.int .i64 t)).setCell ⟨B + 1, 1, none⟩ (.int .i64 l)).setCell ⟨B + 1, 2, none⟩ (.int .i64 9)).setCell ⟨B + 1, 3, none⟩ (.bool r)).setCell ⟨B + 1, 4, none⟩ (.int .i64 x1)) = w6 at *
        clear hm hkk m0 m1 m2 m3 m4 c0 c1 c2 c3 c4 r0 r1 r2 r3 r4 f0 f1 f2 f3 f4 g0 g1 g2 g3 g4 z1 z2
        obtain ⟨⟨m0, m1, m2, m3, m4⟩, ⟨c0, c1, c2, c3, c4⟩, ⟨r0, r1, r2, r3, r4⟩, ⟨f0, f1, f2, f3, f4⟩, ⟨g0, g1, g2, g3, g4⟩, z1, z2⟩ := hbN.facts
        have HB6 := Lib.hid hbN; have HM6 := Lib.hid hmN; have HK6 := Lib.hid hkN
        have hm := hmN; have hkk := hkN
        clear hbN hmN hkN
        go_upto_region 28 with fail
        have hbN := HB6.out.st 10
        have hmN : RefAt (w6.setCell ⟨B + 1, 2, none⟩ (.int .i64 10)) a v M1 := by
          repeat (first | (with_reducible exact hm) | refine MemT.set (B := B) ?_ ha HV.out _ (by show B ≤ _; dsimp only; omega) _)
        have hkN : Keeps (own2m a v) w (w6.setCell ⟨B + 1, 2, none⟩ (.int .i64 10)) := by
          repeat (first | (with_reducible exact hkk) | refine kset HB.out ?_ _ (by show B ≤ _; dsimp only; omega) _)
        generalize (w6.setCell ⟨B + 1, 2, none⟩ (.int .i64 10)) = w7 at *
        clear hm hkk m0 m1 m2 m3 m4 c0 c1 c2 c3 c4 r0 r1 r2 r3 r4 f0 f1 f2 f3 f4 g0 g1 g2 g3 g4 z1 z2
        obtain ⟨⟨m0, m1, m2, m3, m4⟩, ⟨c0, c1, c2, c3, c4⟩, ⟨r0, r1, r2, r3, r4⟩, ⟨f0, f1, f2, f3, f4⟩, ⟨g0, g1, g2, g3, g4⟩, z1, z2⟩ := hbN.facts
        have HB7 := Lib.hid hbN; have HM7 := Lib.hid hmN; have HK7 := Lib.hid hkN
        have hm := hmN; have hkk := hkN
        clear hbN hmN hkN
        go_wp2_with fail
        refine bodyPost_ret (v := .agg #[.int .i64 t, .int .i64 l, .int .i64 10, .bool r, .int .i64 x1]) (by simp [results, Try.results46, go_sem, *]) rfl ⟨rfl, ?_, ?_⟩
        · repeat (first | (with_reducible exact hm) | refine MemT.set (B := B) ?_ ha HV.out _ (by show B ≤ _; dsimp only; omega) _)
        · repeat (first | (with_reducible exact hkk) | refine kset HB.out ?_ _ (by show B ≤ _; dsimp only; omega) _)
      · have hbx := bx_new w 2 2 4 0 2 t l 1 r x 54
        have hk : Keeps NoS w (((w.alloc (.cells #[.int .i64 2, .int .i64 2, .int .i64 4, .int .i64 0, .int .i64 2] 54)).alloc (.cells #[.int .i64 t, .int .i64 l, .int .i64 1, .bool r, .int .i64 x] 37)).alloc (.cells #[.int .i64 0, .int .i64 0, .int .i64 0, .bool false, .int .i64 0] 37)) := (((Keeps.refl NoS w).alloc _).alloc _).alloc _
        have ha := blk_lt hA.hd
        have hv : ∀ g, v.ownBlock = some g → g < w.heap.size := fun g hg => hA.own_lt hg
        have hA2 := hA.keep hk (fun f => f) (fun _ _ f => f)
        obtain ⟨B, hB⟩ : ∃ B, w.heap.size = B := ⟨_, rfl⟩
        rw [hB] at hbx hv ha
        have HB := Lib.hid hB; have HA2 := Lib.hid hA2; have HK := Lib.hid hk; have HV := Lib.hid hv; have HBX := Lib.hid hbx; have HL := Lib.hid hl48
        clear hB hA2 hk hv hbx hl48 hA
        go_enter Try.func46, Try.ntmps46
        go_wp2_with fail
        (try rw [HB.out])
        refine (rmay8_any t l 1 r x _).mono ?_
        rw [HOK.out]
        rintro e w1 ⟨rfl, hk1⟩
        have hb1 := HBX.out.no hk1
        have hm1 := HA2.out.keep hk1 (fun f => f) (fun _ _ f => f)
        obtain ⟨⟨m0, m1, m2, m3, m4⟩, ⟨c0, c1, c2, c3, c4⟩, ⟨r0, r1, r2, r3, r4⟩, ⟨f0, f1, f2, f3, f4⟩, ⟨g0, g1, g2, g3, g4⟩, z1, z2⟩ := hb1.facts
        have HB1 := Lib.hid hb1; have HM1 := Lib.hid hm1; have HK1 := Lib.hid (HK.out.trans hk1)
        clear hb1 hm1
        go_upto_region 6 with (first
          | (go_at_call 28; refine (rlock_lit 2 2 4 0 2 l 3 _ HRD.out _).mono ?_; rintro e w5 ⟨rfl, hk5⟩; clear m0 m1 m2 m3 m4 c0 c1 c2 c3 c4 r0 r1 r2 r3 r4 f0 f1 f2 f3 f4 g0 g1 g2 g3 g4 z1 z2; have hb5 := HB1.out.no hk5; have hm5 := HM1.out.keep hk5 (fun f => f) (fun _ _ f => f); obtain ⟨⟨m0, m1, m2, m3, m4⟩, ⟨c0, c1, c2, c3, c4⟩, ⟨r0, r1, r2, r3, r4⟩, ⟨f0, f1, f2, f3, f4⟩, ⟨g0, g1, g2, g3, g4⟩, z1, z2⟩ := hb5.facts; have HB5 := Lib.hid hb5; have HM5 := Lib.hid hm5; clear hb5 hm5)
          | (go_at_call 34; have hct := rtake8_yes t l 1 r x a v M _ ht hl HM5.out HL.out; rw [HD.out] at hct; unfold handV at hct; dsimp only at hct; refine hct.mono ?_; clear hct; rintro e w4 ⟨rfl, hm, hk4⟩; have hb4 := HB5.out.own hk4 ha HV.out; clear m0 m1 m2 m3 m4 c0 c1 c2 c3 c4 r0 r1 r2 r3 r4 f0 f1 f2 f3 f4 g0 g1 g2 g3 g4 z1 z2; obtain ⟨⟨m0, m1, m2, m3, m4⟩, ⟨c0, c1, c2, c3, c4⟩, ⟨r0, r1, r2, r3, r4⟩, ⟨f0, f1, f2, f3, f4⟩, ⟨g0, g1, g2, g3, g4⟩, z1, z2⟩ := hb4.facts; have HB4 := Lib.hid hb4; have hkk : Keeps (own2m a v) w w4 := (HK1.out.trans hk5).no.trans hk4; clear hb4))
        have hbN := HB4.out.h5 t l 9 r x1
        have hmN : RefAt (((((w4.setCell ⟨B + 1, 0, none⟩ (.int .i64 t)).setCell ⟨B + 1, 1, none⟩ (.int .i64 l)).setCell ⟨B + 1, 2, none⟩ (.int .i64 9)).setCell ⟨B + 1, 3, none⟩ (.bool r)).setCell ⟨B + 1, 4, none⟩ (.int .i64 x1)) a v M1 := by
          repeat (first | (with_reducible exact hm) | refine MemT.set (B := B) ?_ ha HV.out _ (by show B ≤ _; dsimp only; omega) _)
        have hkN : Keeps (own2m a v) w (((((w4.setCell ⟨B + 1, 0, none⟩ (.int .i64 t)).setCell ⟨B + 1, 1, none⟩ (.int .i64 l)).setCell ⟨B + 1, 2, none⟩ (.int .i64 9)).setCell ⟨B + 1, 3, none⟩ (.bool r)).setCell ⟨B + 1, 4, none⟩ (.int .i64 x1)) := by
          repeat (first | (with_reducible exact hkk) | refine kset HB.out ?_ _ (by show B ≤ _; dsimp only; omega) _)
        generalize (((((w4.setCell ⟨B + 1, 0, none⟩ (.int .i64 t)).setCell ⟨B + 1, 1, none⟩ (.int .i64 l)).setCell ⟨B + 1, 2, none⟩ (.int .i64 9)).setCell ⟨B + 1, 3, none⟩ (.bool r)).setCell ⟨B + 1, 4, none⟩ (.int .i64 x1)) = w6 at *
        clear hm hkk m0 m1 m2 m3 m4 c0 c1 c2 c3 c4 r0 r1 r2 r3 r4 f0 f1 f2 f3 f4 g0 g1 g2 g3 g4 z1 z2
        obtain ⟨⟨m0, m1, m2, m3, m4⟩, ⟨c0, c1, c2, c3, c4⟩, ⟨r0, r1, r2, r3, r4⟩, ⟨f0, f1, f2, f3, f4⟩, ⟨g0, g1, g2, g3, g4⟩, z1, z2⟩ := hbN.facts
        have HB6 := Lib.hid hbN; have HM6 := Lib.hid hmN; have HK6 := Lib.hid hkN
        have hm := hmN; have hkk := hkN
        clear hbN hmN hkN
        go_upto_region 28 with fail
        have hbN := HB6.out.st 10
        have hmN : RefAt (w6.setCell ⟨B + 1, 2, none⟩ (.int .i64 10)) a v M1 := by
          repeat (first | (with_reducible exact hm) | refine MemT.set (B := B) ?_ ha HV.out _ (by show B ≤ _; dsimp only; omega) _)
        have hkN : Keeps (own2m a v) w (w6.setCell ⟨B + 1, 2, none⟩ (.int .i64 10)) := by
          repeat (first | (with_reducible exact hkk) | refine kset HB.out ?_ _ (by show B ≤ _; dsimp only; omega) _)
        generalize (w6.setCell ⟨B + 1, 2, none⟩ (.int .i64 10)) = w7 at *
        clear hm hkk m0 m1 m2 m3 m4 c0 c1 c2 c3 c4 r0 r1 r2 r3 r4 f0 f1 f2 f3 f4 g0 g1 g2 g3 g4 z1 z2
        obtain ⟨⟨m0, m1, m2, m3, m4⟩, ⟨c0, c1, c2, c3, c4⟩, ⟨r0, r1, r2, r3, r4⟩, ⟨f0, f1, f2, f3, f4⟩, ⟨g0, g1, g2, g3, g4⟩, z1, z2⟩ := hbN.facts
        have HB7 := Lib.hid hbN; have HM7 := Lib.hid hmN; have HK7 := Lib.hid hkN
        have hm := hmN; have hkk := hkN
        clear hbN hmN hkN
        go_wp2_with fail
        refine bodyPost_ret (v := .agg #[.int .i64 t, .int .i64 l, .int .i64 10, .bool r, .int .i64 x1]) (by simp [results, Try.results46, go_sem, *]) rfl ⟨rfl, ?_, ?_⟩
        · repeat (first | (with_reducible exact hm) | refine MemT.set (B := B) ?_ ha HV.out _ (by show B ≤ _; dsimp only; omega) _)
        · repeat (first | (with_reducible exact hkk) | refine kset HB.out ?_ _ (by show B ≤ _; dsimp only; omega) _)
      · have hbx := bx_new w 2 2 4 0 2 t l 2 r x 54
        have hk : Keeps NoS w (((w.alloc (.cells #[.int .i64 2, .int .i64 2, .int .i64 4, .int .i64 0, .int .i64 2] 54)).alloc (.cells #[.int .i64 t, .int .i64 l, .int .i64 2, .bool r, .int .i64 x] 37)).alloc (.cells #[.int .i64 0, .int .i64 0, .int .i64 0, .bool false, .int .i64 0] 37)) := (((Keeps.refl NoS w).alloc _).alloc _).alloc _
        have ha := blk_lt hA.hd
        have hv : ∀ g, v.ownBlock = some g → g < w.heap.size := fun g hg => hA.own_lt hg
        have hA2 := hA.keep hk (fun f => f) (fun _ _ f => f)
        obtain ⟨B, hB⟩ : ∃ B, w.heap.size = B := ⟨_, rfl⟩
        rw [hB] at hbx hv ha
        have HB := Lib.hid hB; have HA2 := Lib.hid hA2; have HK := Lib.hid hk; have HV := Lib.hid hv; have HBX := Lib.hid hbx; have HL := Lib.hid hl48
        clear hB hA2 hk hv hbx hl48 hA
        go_enter Try.func46, Try.ntmps46
        go_wp2_with fail
        (try rw [HB.out])
        refine (rmay8_any t l 2 r x _).mono ?_
        rw [HOK.out]
        rintro e w1 ⟨rfl, hk1⟩
        have hb1 := HBX.out.no hk1
        have hm1 := HA2.out.keep hk1 (fun f => f) (fun _ _ f => f)
        obtain ⟨⟨m0, m1, m2, m3, m4⟩, ⟨c0, c1, c2, c3, c4⟩, ⟨r0, r1, r2, r3, r4⟩, ⟨f0, f1, f2, f3, f4⟩, ⟨g0, g1, g2, g3, g4⟩, z1, z2⟩ := hb1.facts
        have HB1 := Lib.hid hb1; have HM1 := Lib.hid hm1; have HK1 := Lib.hid (HK.out.trans hk1)
        clear hb1 hm1
        go_upto_region 6 with (first
          | (go_at_call 28; refine (rlock_lit 2 2 4 0 2 l 3 _ HRD.out _).mono ?_; rintro e w5 ⟨rfl, hk5⟩; clear m0 m1 m2 m3 m4 c0 c1 c2 c3 c4 r0 r1 r2 r3 r4 f0 f1 f2 f3 f4 g0 g1 g2 g3 g4 z1 z2; have hb5 := HB1.out.no hk5; have hm5 := HM1.out.keep hk5 (fun f => f) (fun _ _ f => f); obtain ⟨⟨m0, m1, m2, m3, m4⟩, ⟨c0, c1, c2, c3, c4⟩, ⟨r0, r1, r2, r3, r4⟩, ⟨f0, f1, f2, f3, f4⟩, ⟨g0, g1, g2, g3, g4⟩, z1, z2⟩ := hb5.facts; have HB5 := Lib.hid hb5; have HM5 := Lib.hid hm5; clear hb5 hm5)
          | (go_at_call 34; have hct := rtake8_yes t l 2 r x a v M _ ht hl HM5.out HL.out; rw [HD.out] at hct; unfold handV at hct; dsimp only at hct; refine hct.mono ?_; clear hct; rintro e w4 ⟨rfl, hm, hk4⟩; have hb4 := HB5.out.own hk4 ha HV.out; clear m0 m1 m2 m3 m4 c0 c1 c2 c3 c4 r0 r1 r2 r3 r4 f0 f1 f2 f3 f4 g0 g1 g2 g3 g4 z1 z2; obtain ⟨⟨m0, m1, m2, m3, m4⟩, ⟨c0, c1, c2, c3, c4⟩, ⟨r0, r1, r2, r3, r4⟩, ⟨f0, f1, f2, f3, f4⟩, ⟨g0, g1, g2, g3, g4⟩, z1, z2⟩ := hb4.facts; have HB4 := Lib.hid hb4; have hkk : Keeps (own2m a v) w w4 := (HK1.out.trans hk5).no.trans hk4; clear hb4))
        have hbN := HB4.out.h5 t l 9 r x1
        have hmN : RefAt (((((w4.setCell ⟨B + 1, 0, none⟩ (.int .i64 t)).setCell ⟨B + 1, 1, none⟩ (.int .i64 l)).setCell ⟨B + 1, 2, none⟩ (.int .i64 9)).setCell ⟨B + 1, 3, none⟩ (.bool r)).setCell ⟨B + 1, 4, none⟩ (.int .i64 x1)) a v M1 := by
          repeat (first | (with_reducible exact hm) | refine MemT.set (B := B) ?_ ha HV.out _ (by show B ≤ _; dsimp only; omega) _)
        have hkN : Keeps (own2m a v) w (((((w4.setCell ⟨B + 1, 0, none⟩ (.int .i64 t)).setCell ⟨B + 1, 1, none⟩ (.int .i64 l)).setCell ⟨B + 1, 2, none⟩ (.int .i64 9)).setCell ⟨B + 1, 3, none⟩ (.bool r)).setCell ⟨B + 1, 4, none⟩ (.int .i64 x1)) := by
          repeat (first | (with_reducible exact hkk) | refine kset HB.out ?_ _ (by show B ≤ _; dsimp only; omega) _)
        generalize (((((w4.setCell ⟨B + 1, 0, none⟩ (.int .i64 t)).setCell ⟨B + 1, 1, none⟩ (.int .i64 l)).setCell ⟨B + 1, 2, none⟩ (.int .i64 9)).setCell ⟨B + 1, 3, none⟩ (.bool r)).setCell ⟨B + 1, 4, none⟩ (.int .i64 x1)) = w6 at *
        clear hm hkk m0 m1 m2 m3 m4 c0 c1 c2 c3 c4 r0 r1 r2 r3 r4 f0 f1 f2 f3 f4 g0 g1 g2 g3 g4 z1 z2
        obtain ⟨⟨m0, m1, m2, m3, m4⟩, ⟨c0, c1, c2, c3, c4⟩, ⟨r0, r1, r2, r3, r4⟩, ⟨f0, f1, f2, f3, f4⟩, ⟨g0, g1, g2, g3, g4⟩, z1, z2⟩ := hbN.facts
        have HB6 := Lib.hid hbN; have HM6 := Lib.hid hmN; have HK6 := Lib.hid hkN
        have hm := hmN; have hkk := hkN
        clear hbN hmN hkN
        go_upto_region 28 with fail
        have hbN := HB6.out.st 10
        have hmN : RefAt (w6.setCell ⟨B + 1, 2, none⟩ (.int .i64 10)) a v M1 := by
          repeat (first | (with_reducible exact hm) | refine MemT.set (B := B) ?_ ha HV.out _ (by show B ≤ _; dsimp only; omega) _)
        have hkN : Keeps (own2m a v) w (w6.setCell ⟨B + 1, 2, none⟩ (.int .i64 10)) := by
          repeat (first | (with_reducible exact hkk) | refine kset HB.out ?_ _ (by show B ≤ _; dsimp only; omega) _)
        generalize (w6.setCell ⟨B + 1, 2, none⟩ (.int .i64 10)) = w7 at *
        clear hm hkk m0 m1 m2 m3 m4 c0 c1 c2 c3 c4 r0 r1 r2 r3 r4 f0 f1 f2 f3 f4 g0 g1 g2 g3 g4 z1 z2
        obtain ⟨⟨m0, m1, m2, m3, m4⟩, ⟨c0, c1, c2, c3, c4⟩, ⟨r0, r1, r2, r3, r4⟩, ⟨f0, f1, f2, f3, f4⟩, ⟨g0, g1, g2, g3, g4⟩, z1, z2⟩ := hbN.facts
        have HB7 := Lib.hid hbN; have HM7 := Lib.hid hmN; have HK7 := Lib.hid hkN
        have hm := hmN; have hkk := hkN
        clear hbN hmN hkN
        go_wp2_with fail
        refine bodyPost_ret (v := .agg #[.int .i64 t, .int .i64 l, .int .i64 10, .bool r, .int .i64 x1]) (by simp [results, Try.results46, go_sem, *]) rfl ⟨rfl, ?_, ?_⟩
        · repeat (first | (with_reducible exact hm) | refine MemT.set (B := B) ?_ ha HV.out _ (by show B ≤ _; dsimp only; omega) _)
        · repeat (first | (with_reducible exact hkk) | refine kset HB.out ?_ _ (by show B ≤ _; dsimp only; omega) _)
      · have hbx := bx_new w 2 2 4 0 2 t l 3 r x 54
        have hk : Keeps NoS w (((w.alloc (.cells #[.int .i64 2, .int .i64 2, .int .i64 4, .int .i64 0, .int .i64 2] 54)).alloc (.cells #[.int .i64 t, .int .i64 l, .int .i64 3, .bool r, .int .i64 x] 37)).alloc (.cells #[.int .i64 0, .int .i64 0, .int .i64 0, .bool false, .int .i64 0] 37)) := (((Keeps.refl NoS w).alloc _).alloc _).alloc _
        have ha := blk_lt hA.hd
        have hv : ∀ g, v.ownBlock = some g → g < w.heap.size := fun g hg => hA.own_lt hg
        have hA2 := hA.keep hk (fun f => f) (fun _ _ f => f)
        obtain ⟨B, hB⟩ : ∃ B, w.heap.size = B := ⟨_, rfl⟩
        rw [hB] at hbx hv ha
        have HB := Lib.hid hB; have HA2 := Lib.hid hA2; have HK := Lib.hid hk; have HV := Lib.hid hv; have HBX := Lib.hid hbx; have HL := Lib.hid hl48
        clear hB hA2 hk hv hbx hl48 hA
        go_enter Try.func46, Try.ntmps46
        go_wp2_with fail
        (try rw [HB.out])
        refine (rmay8_any t l 3 r x _).mono ?_
        rw [HOK.out]
        rintro e w1 ⟨rfl, hk1⟩
        have hb1 := HBX.out.no hk1
        have hm1 := HA2.out.keep hk1 (fun f => f) (fun _ _ f => f)
        obtain ⟨⟨m0, m1, m2, m3, m4⟩, ⟨c0, c1, c2, c3, c4⟩, ⟨r0, r1, r2, r3, r4⟩, ⟨f0, f1, f2, f3, f4⟩, ⟨g0, g1, g2, g3, g4⟩, z1, z2⟩ := hb1.facts
        have HB1 := Lib.hid hb1; have HM1 := Lib.hid hm1; have HK1 := Lib.hid (HK.out.trans hk1)
        clear hb1 hm1
        go_upto_region 6 with (first
          | (go_at_call 28; refine (rlock_lit 2 2 4 0 2 l 3 _ HRD.out _).mono ?_; rintro e w5 ⟨rfl, hk5⟩; clear m0 m1 m2 m3 m4 c0 c1 c2 c3 c4 r0 r1 r2 r3 r4 f0 f1 f2 f3 f4 g0 g1 g2 g3 g4 z1 z2; have hb5 := HB1.out.no hk5; have hm5 := HM1.out.keep hk5 (fun f => f) (fun _ _ f => f); obtain ⟨⟨m0, m1, m2, m3, m4⟩, ⟨c0, c1, c2, c3, c4⟩, ⟨r0, r1, r2, r3, r4⟩, ⟨f0, f1, f2, f3, f4⟩, ⟨g0, g1, g2, g3, g4⟩, z1, z2⟩ := hb5.facts; have HB5 := Lib.hid hb5; have HM5 := Lib.hid hm5; clear hb5 hm5)
          | (go_at_call 34; have hct := rtake8_yes t l 3 r x a v M _ ht hl HM5.out HL.out; rw [HD.out] at hct; unfold handV at hct; dsimp only at hct; refine hct.mono ?_; clear hct; rintro e w4 ⟨rfl, hm, hk4⟩; have hb4 := HB5.out.own hk4 ha HV.out; clear m0 m1 m2 m3 m4 c0 c1 c2 c3 c4 r0 r1 r2 r3 r4 f0 f1 f2 f3 f4 g0 g1 g2 g3 g4 z1 z2; obtain ⟨⟨m0, m1, m2, m3, m4⟩, ⟨c0, c1, c2, c3, c4⟩, ⟨r0, r1, r2, r3, r4⟩, ⟨f0, f1, f2, f3, f4⟩, ⟨g0, g1, g2, g3, g4⟩, z1, z2⟩ := hb4.facts; have HB4 := Lib.hid hb4; have hkk : Keeps (own2m a v) w w4 := (HK1.out.trans hk5).no.trans hk4; clear hb4))
        have hbN := HB4.out.h5 t l 9 r x1
        have hmN : RefAt (((((w4.setCell ⟨B + 1, 0, none⟩ (.int .i64 t)).setCell ⟨B + 1, 1, none⟩ (.int .i64 l)).setCell ⟨B + 1, 2, none⟩ (.int .i64 9)).setCell ⟨B + 1, 3, none⟩ (.bool r)).setCell ⟨B + 1, 4, none⟩ (.int .i64 x1)) a v M1 := by
          repeat (first | (with_reducible exact hm) | refine MemT.set (B := B) ?_ ha HV.out _ (by show B ≤ _; dsimp only; omega) _)
        have hkN : Keeps (own2m a v) w (((((w4.setCell ⟨B + 1, 0, none⟩ (.int .i64 t)).setCell ⟨B + 1, 1, none⟩ (.int .i64 l)).setCell ⟨B + 1, 2, none⟩ (.int .i64 9)).setCell ⟨B + 1, 3, none⟩ (.bool r)).setCell ⟨B + 1, 4, none⟩ (.int .i64 x1)) := by
          repeat (first | (with_reducible exact hkk) | refine kset HB.out ?_ _ (by show B ≤ _; dsimp only; omega) _)
        generalize (((((w4.setCell ⟨B + 1, 0, none⟩ (.int .i64 t)).setCell ⟨B + 1, 1, none⟩ (.int .i64 l)).setCell ⟨B + 1, 2, none⟩ (.int .i64 9)).setCell ⟨B + 1, 3, none⟩ (.bool r)).setCell ⟨B + 1, 4, none⟩ (.int .i64 x1)) = w6 at *
        clear hm hkk m0 m1 m2 m3 m4 c0 c1 c2 c3 c4 r0 r1 r2 r3 r4 f0 f1 f2 f3 f4 g0 g1 g2 g3 g4 z1 z2
        obtain ⟨⟨m0, m1, m2, m3, m4⟩, ⟨c0, c1, c2, c3, c4⟩, ⟨r0, r1, r2, r3, r4⟩, ⟨f0, f1, f2, f3, f4⟩, ⟨g0, g1, g2, g3, g4⟩, z1, z2⟩ := hbN.facts
        have HB6 := Lib.hid hbN; have HM6 := Lib.hid hmN; have HK6 := Lib.hid hkN
        have hm := hmN; have hkk := hkN
        clear hbN hmN hkN
        go_upto_region 28 with fail
        have hbN := HB6.out.st 10
        have hmN : RefAt (w6.setCell ⟨B + 1, 2, none⟩ (.int .i64 10)) a v M1 := by
          repeat (first | (with_reducible exact hm) | refine MemT.set (B := B) ?_ ha HV.out _ (by show B ≤ _; dsimp only; omega) _)
        have hkN : Keeps (own2m a v) w (w6.setCell ⟨B + 1, 2, none⟩ (.int .i64 10)) := by
          repeat (first | (with_reducible exact hkk) | refine kset HB.out ?_ _ (by show B ≤ _; dsimp only; omega) _)
        generalize (w6.setCell ⟨B + 1, 2, none⟩ (.int .i64 10)) = w7 at *
        clear hm hkk m0 m1 m2 m3 m4 c0 c1 c2 c3 c4 r0 r1 r2 r3 r4 f0 f1 f2 f3 f4 g0 g1 g2 g3 g4 z1 z2
        obtain ⟨⟨m0, m1, m2, m3, m4⟩, ⟨c0, c1, c2, c3, c4⟩, ⟨r0, r1, r2, r3, r4⟩, ⟨f0, f1, f2, f3, f4⟩, ⟨g0, g1, g2, g3, g4⟩, z1, z2⟩ := hbN.facts
        have HB7 := Lib.hid hbN; have HM7 := Lib.hid hmN; have HK7 := Lib.hid hkN
        have hm := hmN; have hkk := hkN
        clear hbN hmN hkN
        go_wp2_with fail
        refine bodyPost_ret (v := .agg #[.int .i64 t, .int .i64 l, .int .i64 10, .bool r, .int .i64 x1]) (by simp [results, Try.results46, go_sem, *]) rfl ⟨rfl, ?_, ?_⟩
        · repeat (first | (with_reducible exact hm) | refine MemT.set (B := B) ?_ ha HV.out _ (by show B ≤ _; dsimp only; omega) _)
        · repeat (first | (with_reducible exact hkk) | refine kset HB.out ?_ _ (by show B ≤ _; dsimp only; omega) _)
      · have hbx := bx_new w 2 2 4 0 2 t l 4 r x 54
        have hk : Keeps NoS w (((w.alloc (.cells #[.int .i64 2, .int .i64 2, .int .i64 4, .int .i64 0, .int .i64 2] 54)).alloc (.cells #[.int .i64 t, .int .i64 l, .int .i64 4, .bool r, .int .i64 x] 37)).alloc (.cells #[.int .i64 0, .int .i64 0, .int .i64 0, .bool false, .int .i64 0] 37)) := (((Keeps.refl NoS w).alloc _).alloc _).alloc _
        have ha := blk_lt hA.hd
        have hv : ∀ g, v.ownBlock = some g → g < w.heap.size := fun g hg => hA.own_lt hg
        have hA2 := hA.keep hk (fun f => f) (fun _ _ f => f)
        obtain ⟨B, hB⟩ : ∃ B, w.heap.size = B := ⟨_, rfl⟩
        rw [hB] at hbx hv ha
        have HB := Lib.hid hB; have HA2 := Lib.hid hA2; have HK := Lib.hid hk; have HV := Lib.hid hv; have HBX := Lib.hid hbx; have HL := Lib.hid hl48
        clear hB hA2 hk hv hbx hl48 hA
        go_enter Try.func46, Try.ntmps46
        go_wp2_with fail
        (try rw [HB.out])
        refine (rmay8_any t l 4 r x _).mono ?_
        rw [HOK.out]
        rintro e w1 ⟨rfl, hk1⟩
        have hb1 := HBX.out.no hk1
        have hm1 := HA2.out.keep hk1 (fun f => f) (fun _ _ f => f)
        obtain ⟨⟨m0, m1, m2, m3, m4⟩, ⟨c0, c1, c2, c3, c4⟩, ⟨r0, r1, r2, r3, r4⟩, ⟨f0, f1, f2, f3, f4⟩, ⟨g0, g1, g2, g3, g4⟩, z1, z2⟩ := hb1.facts
        have HB1 := Lib.hid hb1; have HM1 := Lib.hid hm1; have HK1 := Lib.hid (HK.out.trans hk1)
        clear hb1 hm1
        go_upto_region 6 with (first
          | (go_at_call 28; refine (rlock_lit 2 2 4 0 2 l 3 _ HRD.out _).mono ?_; rintro e w5 ⟨rfl, hk5⟩; clear m0 m1 m2 m3 m4 c0 c1 c2 c3 c4 r0 r1 r2 r3 r4 f0 f1 f2 f3 f4 g0 g1 g2 g3 g4 z1 z2; have hb5 := HB1.out.no hk5; have hm5 := HM1.out.keep hk5 (fun f => f) (fun _ _ f => f); obtain ⟨⟨m0, m1, m2, m3, m4⟩, ⟨c0, c1, c2, c3, c4⟩, ⟨r0, r1, r2, r3, r4⟩, ⟨f0, f1, f2, f3, f4⟩, ⟨g0, g1, g2, g3, g4⟩, z1, z2⟩ := hb5.facts; have HB5 := Lib.hid hb5; have HM5 := Lib.hid hm5; clear hb5 hm5)
          | (go_at_call 34; have hct := rtake8_yes t l 4 r x a v M _ ht hl HM5.out HL.out; rw [HD.out] at hct; unfold handV at hct; dsimp only at hct; refine hct.mono ?_; clear hct; rintro e w4 ⟨rfl, hm, hk4⟩; have hb4 := HB5.out.own hk4 ha HV.out; clear m0 m1 m2 m3 m4 c0 c1 c2 c3 c4 r0 r1 r2 r3 r4 f0 f1 f2 f3 f4 g0 g1 g2 g3 g4 z1 z2; obtain ⟨⟨m0, m1, m2, m3, m4⟩, ⟨c0, c1, c2, c3, c4⟩, ⟨r0, r1, r2, r3, r4⟩, ⟨f0, f1, f2, f3, f4⟩, ⟨g0, g1, g2, g3, g4⟩, z1, z2⟩ := hb4.facts; have HB4 := Lib.hid hb4; have hkk : Keeps (own2m a v) w w4 := (HK1.out.trans hk5).no.trans hk4; clear hb4))
        have hbN := HB4.out.h5 t l 9 r x1
        have hmN : RefAt (((((w4.setCell ⟨B + 1, 0, none⟩ (.int .i64 t)).setCell ⟨B + 1, 1, none⟩ (.int .i64 l)).setCell ⟨B + 1, 2, none⟩ (.int .i64 9)).setCell ⟨B + 1, 3, none⟩ (.bool r)).setCell ⟨B + 1, 4, none⟩ (.int .i64 x1)) a v M1 := by
          repeat (first | (with_reducible exact hm) | refine MemT.set (B := B) ?_ ha HV.out _ (by show B ≤ _; dsimp only; omega) _)
        have hkN : Keeps (own2m a v) w (((((w4.setCell ⟨B + 1, 0, none⟩ (.int .i64 t)).setCell ⟨B + 1, 1, none⟩ (.int .i64 l)).setCell ⟨B + 1, 2, none⟩ (.int .i64 9)).setCell ⟨B + 1, 3, none⟩ (.bool r)).setCell ⟨B + 1, 4, none⟩ (.int .i64 x1)) := by
          repeat (first | (with_reducible exact hkk) | refine kset HB.out ?_ _ (by show B ≤ _; dsimp only; omega) _)
        generalize (((((w4.setCell ⟨B + 1, 0, none⟩ (.int .i64 t)).setCell ⟨B + 1, 1, none⟩ (.int .i64 l)).setCell ⟨B + 1, 2, none⟩ (.int .i64 9)).setCell ⟨B + 1, 3, none⟩ (.bool r)).setCell ⟨B + 1, 4, none⟩ (.int .i64 x1)) = w6 at *
        clear hm hkk m0 m1 m2 m3 m4 c0 c1 c2 c3 c4 r0 r1 r2 r3 r4 f0 f1 f2 f3 f4 g0 g1 g2 g3 g4 z1 z2
        obtain ⟨⟨m0, m1, m2, m3, m4⟩, ⟨c0, c1, c2, c3, c4⟩, ⟨r0, r1, r2, r3, r4⟩, ⟨f0, f1, f2, f3, f4⟩, ⟨g0, g1, g2, g3, g4⟩, z1, z2⟩ := hbN.facts
        have HB6 := Lib.hid hbN; have HM6 := Lib.hid hmN; have HK6 := Lib.hid hkN
        have hm := hmN; have hkk := hkN
        clear hbN hmN hkN
        go_upto_region 28 with fail
        have hbN := HB6.out.st 10
        have hmN : RefAt (w6.setCell ⟨B + 1, 2, none⟩ (.int .i64 10)) a v M1 := by
          repeat (first | (with_reducible exact hm) | refine MemT.set (B := B) ?_ ha HV.out _ (by show B ≤ _; dsimp only; omega) _)
        have hkN : Keeps (own2m a v) w (w6.setCell ⟨B + 1, 2, none⟩ (.int .i64 10)) := by
          repeat (first | (with_reducible exact hkk) | refine kset HB.out ?_ _ (by show B ≤ _; dsimp only; omega) _)
        generalize (w6.setCell ⟨B + 1, 2, none⟩ (.int .i64 10)) = w7 at *
        clear hm hkk m0 m1 m2 m3 m4 c0 c1 c2 c3 c4 r0 r1 r2 r3 r4 f0 f1 f2 f3 f4 g0 g1 g2 g3 g4 z1 z2
        obtain ⟨⟨m0, m1, m2, m3, m4⟩, ⟨c0, c1, c2, c3, c4⟩, ⟨r0, r1, r2, r3, r4⟩, ⟨f0, f1, f2, f3, f4⟩, ⟨g0, g1, g2, g3, g4⟩, z1, z2⟩ := hbN.facts
        have HB7 := Lib.hid hbN; have HM7 := Lib.hid hmN; have HK7 := Lib.hid hkN
        have hm := hmN; have hkk := hkN
        clear hbN hmN hkN
        go_wp2_with fail
        refine bodyPost_ret (v := .agg #[.int .i64 t, .int .i64 l, .int .i64 10, .bool r, .int .i64 x1]) (by simp [results, Try.results46, go_sem, *]) rfl ⟨rfl, ?_, ?_⟩
        · repeat (first | (with_reducible exact hm) | refine MemT.set (B := B) ?_ ha HV.out _ (by show B ≤ _; dsimp only; omega) _)
        · repeat (first | (with_reducible exact hkk) | refine kset HB.out ?_ _ (by show B ≤ _; dsimp only; omega) _)
      · have hbx := bx_new w 2 2 4 0 2 t l 5 r x 54
        have hk : Keeps NoS w (((w.alloc (.cells #[.int .i64 2, .int .i64 2, .int .i64 4, .int .i64 0, .int .i64 2] 54)).alloc (.cells #[.int .i64 t, .int .i64 l, .int .i64 5, .bool r, .int .i64 x] 37)).alloc (.cells #[.int .i64 0, .int .i64 0, .int .i64 0, .bool false, .int .i64 0] 37)) := (((Keeps.refl NoS w).alloc _).alloc _).alloc _
        have ha := blk_lt hA.hd
        have hv : ∀ g, v.ownBlock = some g → g < w.heap.size := fun g hg => hA.own_lt hg
        have hA2 := hA.keep hk (fun f => f) (fun _ _ f => f)
        obtain ⟨B, hB⟩ : ∃ B, w.heap.size = B := ⟨_, rfl⟩
        rw [hB] at hbx hv ha
        have HB := Lib.hid hB; have HA2 := Lib.hid hA2; have HK := Lib.hid hk; have HV := Lib.hid hv; have HBX := Lib.hid hbx; have HL := Lib.hid hl48
        clear hB hA2 hk hv hbx hl48 hA
        go_enter Try.func46, Try.ntmps46
        go_wp2_with fail
        (try rw [HB.out])
        refine (rmay8_any t l 5 r x _).mono ?_
        rw [HOK.out]
        rintro e w1 ⟨rfl, hk1⟩
        have hb1 := HBX.out.no hk1
        have hm1 := HA2.out.keep hk1 (fun f => f) (fun _ _ f => f)
        obtain ⟨⟨m0, m1, m2, m3, m4⟩, ⟨c0, c1, c2, c3, c4⟩, ⟨r0, r1, r2, r3, r4⟩, ⟨f0, f1, f2, f3, f4⟩, ⟨g0, g1, g2, g3, g4⟩, z1, z2⟩ := hb1.facts
        have HB1 := Lib.hid hb1; have HM1 := Lib.hid hm1; have HK1 := Lib.hid (HK.out.trans hk1)
        clear hb1 hm1
        go_upto_region 6 with (first
          | (go_at_call 28; refine (rlock_lit 2 2 4 0 2 l 3 _ HRD.out _).mono ?_; rintro e w5 ⟨rfl, hk5⟩; clear m0 m1 m2 m3 m4 c0 c1 c2 c3 c4 r0 r1 r2 r3 r4 f0 f1 f2 f3 f4 g0 g1 g2 g3 g4 z1 z2; have hb5 := HB1.out.no hk5; have hm5 := HM1.out.keep hk5 (fun f => f) (fun _ _ f => f); obtain ⟨⟨m0, m1, m2, m3, m4⟩, ⟨c0, c1, c2, c3, c4⟩, ⟨r0, r1, r2, r3, r4⟩, ⟨f0, f1, f2, f3, f4⟩, ⟨g0, g1, g2, g3, g4⟩, z1, z2⟩ := hb5.facts; have HB5 := Lib.hid hb5; have HM5 := Lib.hid hm5; clear hb5 hm5)
          | (go_at_call 34; have hct := rtake8_yes t l 5 r x a v M _ ht hl HM5.out HL.out; rw [HD.out] at hct; unfold handV at hct; dsimp only at hct; refine hct.mono ?_; clear hct; rintro e w4 ⟨rfl, hm, hk4⟩; have hb4 := HB5.out.own hk4 ha HV.out; clear m0 m1 m2 m3 m4 c0 c1 c2 c3 c4 r0 r1 r2 r3 r4 f0 f1 f2 f3 f4 g0 g1 g2 g3 g4 z1 z2; obtain ⟨⟨m0, m1, m2, m3, m4⟩, ⟨c0, c1, c2, c3, c4⟩, ⟨r0, r1, r2, r3, r4⟩, ⟨f0, f1, f2, f3, f4⟩, ⟨g0, g1, g2, g3, g4⟩, z1, z2⟩ := hb4.facts; have HB4 := Lib.hid hb4; have hkk : Keeps (own2m a v) w w4 := (HK1.out.trans hk5).no.trans hk4; clear hb4))
        have hbN := HB4.out.h5 t l 9 r x1
        have hmN : RefAt (((((w4.setCell ⟨B + 1, 0, none⟩ (.int .i64 t)).setCell ⟨B + 1, 1, none⟩ (.int .i64 l)).setCell ⟨B + 1, 2, none⟩ (.int .i64 9)).setCell ⟨B + 1, 3, none⟩ (.bool r)).setCell ⟨B + 1, 4, none⟩ (.int .i64 x1)) a v M1 := by
          repeat (first | (with_reducible exact hm) | refine MemT.set (B := B) ?_ ha HV.out _ (by show B ≤ _; dsimp only; omega) _)
        have hkN : Keeps (own2m a v) w (((((w4.setCell ⟨B + 1, 0, none⟩ (.int .i64 t)).setCell ⟨B + 1, 1, none⟩ (.int .i64 l)).setCell ⟨B + 1, 2, none⟩ (.int .i64 9)).setCell ⟨B + 1, 3, none⟩ (.bool r)).setCell ⟨B + 1, 4, none⟩ (.int .i64 x1)) := by
          repeat (first | (with_reducible exact hkk) | refine kset HB.out ?_ _ (by show B ≤ _; dsimp only; omega) _)
        generalize (((((w4.setCell ⟨B + 1, 0, none⟩ (.int .i64 t)).setCell ⟨B + 1, 1, none⟩ (.int .i64 l)).setCell ⟨B + 1, 2, none⟩ (.int .i64 9)).setCell ⟨B + 1, 3, none⟩ (.bool r)).setCell ⟨B + 1, 4, none⟩ (.int .i64 x1)) = w6 at *
        clear hm hkk m0 m1 m2 m3 m4 c0 c1 c2 c3 c4 r0 r1 r2 r3 r4 f0 f1 f2 f3 f4 g0 g1 g2 g3 g4 z1 z2
        obtain ⟨⟨m0, m1, m2, m3, m4⟩, ⟨c0, c1, c2, c3, c4⟩, ⟨r0, r1, r2, r3, r4⟩, ⟨f0, f1, f2, f3, f4⟩, ⟨g0, g1, g2, g3, g4⟩, z1, z2⟩ := hbN.facts
        have HB6 := Lib.hid hbN; have HM6 := Lib.hid hmN; have HK6 := Lib.hid hkN
        have hm := hmN; have hkk := hkN
        clear hbN hmN hkN
        go_upto_region 28 with fail
        have hbN := HB6.out.st 10
        have hmN : RefAt (w6.setCell ⟨B + 1, 2, none⟩ (.int .i64 10)) a v M1 := by
          repeat (first | (with_reducible exact hm) | refine MemT.set (B := B) ?_ ha HV.out _ (by show B ≤ _; dsimp only; omega) _)
        have hkN : Keeps (own2m a v) w (w6.setCell ⟨B + 1, 2, none⟩ (.int .i64 10)) := by
          repeat (first | (with_reducible exact hkk) | refine kset HB.out ?_ _ (by show B ≤ _; dsimp only; omega) _)
        generalize (w6.setCell ⟨B + 1, 2, none⟩ (.int .i64 10)) = w7 at *
        clear hm hkk m0 m1 m2 m3 m4 c0 c1 c2 c3 c4 r0 r1 r2 r3 r4 f0 f1 f2 f3 f4 g0 g1 g2 g3 g4 z1 z2
        obtain ⟨⟨m0, m1, m2, m3, m4⟩, ⟨c0, c1, c2, c3, c4⟩, ⟨r0, r1, r2, r3, r4⟩, ⟨f0, f1, f2, f3, f4⟩, ⟨g0, g1, g2, g3, g4⟩, z1, z2⟩ := hbN.facts
        have HB7 := Lib.hid hbN; have HM7 := Lib.hid hmN; have HK7 := Lib.hid hkN
        have hm := hmN; have hkk := hkN
        clear hbN hmN hkN
        go_wp2_with fail
        refine bodyPost_ret (v := .agg #[.int .i64 t, .int .i64 l, .int .i64 10, .bool r, .int .i64 x1]) (by simp [results, Try.results46, go_sem, *]) rfl ⟨rfl, ?_, ?_⟩
        · repeat (first | (with_reducible exact hm) | refine MemT.set (B := B) ?_ ha HV.out _ (by show B ≤ _; dsimp only; omega) _)
        · repeat (first | (with_reducible exact hkk) | refine kset HB.out ?_ _ (by show B ≤ _; dsimp only; omega) _)
    · rw [if_neg h9]
      have h9' : (s1 == 9) = false := by simpa using h9
      have hs : s = 0 ∨ s = 1 ∨ s = 2 ∨ s = 3 ∨ s = 4 ∨ s = 5 := by omega
      clear hs05 h9
      rcases hs with rfl | rfl | rfl | rfl | rfl | rfl
      · have hbx := bx_new w 2 2 4 0 2 t l 0 r x 54
        have hk : Keeps NoS w (((w.alloc (.cells #[.int .i64 2, .int .i64 2, .int .i64 4, .int .i64 0, .int .i64 2] 54)).alloc (.cells #[.int .i64 t, .int .i64 l, .int .i64 0, .bool r, .int .i64 x] 37)).alloc (.cells #[.int .i64 0, .int .i64 0, .int .i64 0, .bool false, .int .i64 0] 37)) := (((Keeps.refl NoS w).alloc _).alloc _).alloc _
        have ha := blk_lt hA.hd
        have hv : ∀ g, v.ownBlock = some g → g < w.heap.size := fun g hg => hA.own_lt hg
        have hA2 := hA.keep hk (fun f => f) (fun _ _ f => f)
        obtain ⟨B, hB⟩ : ∃ B, w.heap.size = B := ⟨_, rfl⟩
        rw [hB] at hbx hv ha
        have HB := Lib.hid hB; have HA2 := Lib.hid hA2; have HK := Lib.hid hk; have HV := Lib.hid hv; have HBX := Lib.hid hbx; have HL := Lib.hid hl48
        clear hB hA2 hk hv hbx hl48 hA
        go_enter Try.func46, Try.ntmps46
        go_wp2_with fail
        (try rw [HB.out])
        refine (rmay8_any t l 0 r x _).mono ?_
        rw [HOK.out]
        rintro e w1 ⟨rfl, hk1⟩
        have hb1 := HBX.out.no hk1
        have hm1 := HA2.out.keep hk1 (fun f => f) (fun _ _ f => f)
        obtain ⟨⟨m0, m1, m2, m3, m4⟩, ⟨c0, c1, c2, c3, c4⟩, ⟨r0, r1, r2, r3, r4⟩, ⟨f0, f1, f2, f3, f4⟩, ⟨g0, g1, g2, g3, g4⟩, z1, z2⟩ := hb1.facts
        have HB1 := Lib.hid hb1; have HM1 := Lib.hid hm1; have HK1 := Lib.hid (HK.out.trans hk1)
        clear hb1 hm1
        go_upto_region 6 with (first
          | (go_at_call 28; refine (rlock_lit 2 2 4 0 2 l 3 _ HRD.out _).mono ?_; rintro e w5 ⟨rfl, hk5⟩; clear m0 m1 m2 m3 m4 c0 c1 c2 c3 c4 r0 r1 r2 r3 r4 f0 f1 f2 f3 f4 g0 g1 g2 g3 g4 z1 z2; have hb5 := HB1.out.no hk5; have hm5 := HM1.out.keep hk5 (fun f => f) (fun _ _ f => f); obtain ⟨⟨m0, m1, m2, m3, m4⟩, ⟨c0, c1, c2, c3, c4⟩, ⟨r0, r1, r2, r3, r4⟩, ⟨f0, f1, f2, f3, f4⟩, ⟨g0, g1, g2, g3, g4⟩, z1, z2⟩ := hb5.facts; have HB5 := Lib.hid hb5; have HM5 := Lib.hid hm5; clear hb5 hm5)
          | (go_at_call 34; have hct := rtake8_yes t l 0 r x a v M _ ht hl HM5.out HL.out; rw [HD.out] at hct; unfold handV at hct; dsimp only at hct; refine hct.mono ?_; clear hct; rintro e w4 ⟨rfl, hm, hk4⟩; have hb4 := HB5.out.own hk4 ha HV.out; clear m0 m1 m2 m3 m4 c0 c1 c2 c3 c4 r0 r1 r2 r3 r4 f0 f1 f2 f3 f4 g0 g1 g2 g3 g4 z1 z2; obtain ⟨⟨m0, m1, m2, m3, m4⟩, ⟨c0, c1, c2, c3, c4⟩, ⟨r0, r1, r2, r3, r4⟩, ⟨f0, f1, f2, f3, f4⟩, ⟨g0, g1, g2, g3, g4⟩, z1, z2⟩ := hb4.facts; have HB4 := Lib.hid hb4; have hkk : Keeps (own2m a v) w w4 := (HK1.out.trans hk5).no.trans hk4; clear hb4))
        have hbN := HB4.out.h5 t l s1 r x1
        have hmN : RefAt (((((w4.setCell ⟨B + 1, 0, none⟩ (.int .i64 t)).setCell ⟨B + 1, 1, none⟩ (.int .i64 l)).setCell ⟨B + 1, 2, none⟩ (.int .i64 s1)).setCell ⟨B + 1, 3, none⟩ (.bool r)).setCell ⟨B + 1, 4, none⟩ (.int .i64 x1)) a v M1 := by
          repeat (first | (with_reducible exact hm) | refine MemT.set (B := B) ?_ ha HV.out _ (by show B ≤ _; dsimp only; omega) _)
        have hkN : Keeps (own2m a v) w (((((w4.setCell ⟨B + 1, 0, none⟩ (.int .i64 t)).setCell ⟨B + 1, 1, none⟩ (.int .i64 l)).setCell ⟨B + 1, 2, none⟩ (.int .i64 s1)).setCell ⟨B + 1, 3, none⟩ (.bool r)).setCell ⟨B + 1, 4, none⟩ (.int .i64 x1)) := by
          repeat (first | (with_reducible exact hkk) | refine kset HB.out ?_ _ (by show B ≤ _; dsimp only; omega) _)
        generalize (((((w4.setCell ⟨B + 1, 0, none⟩ (.int .i64 t)).setCell ⟨B + 1, 1, none⟩ (.int .i64 l)).setCell ⟨B + 1, 2, none⟩ (.int .i64 s1)).setCell ⟨B + 1, 3, none⟩ (.bool r)).setCell ⟨B + 1, 4, none⟩ (.int .i64 x1)) = w6 at *
        clear hm hkk m0 m1 m2 m3 m4 c0 c1 c2 c3 c4 r0 r1 r2 r3 r4 f0 f1 f2 f3 f4 g0 g1 g2 g3 g4 z1 z2
        obtain ⟨⟨m0, m1, m2, m3, m4⟩, ⟨c0, c1, c2, c3, c4⟩, ⟨r0, r1, r2, r3, r4⟩, ⟨f0, f1, f2, f3, f4⟩, ⟨g0, g1, g2, g3, g4⟩, z1, z2⟩ := hbN.facts
        have HB6 := Lib.hid hbN; have HM6 := Lib.hid hmN; have HK6 := Lib.hid hkN
        have hm := hmN; have hkk := hkN
        clear hbN hmN hkN
        go_wp2_with fail
        refine bodyPost_ret (v := .agg #[.int .i64 t, .int .i64 l, .int .i64 s1, .bool r, .int .i64 x1]) (by simp [results, Try.results46, go_sem, *]) rfl ⟨rfl, ?_, ?_⟩
        · repeat (first | (with_reducible exact hm) | refine MemT.set (B := B) ?_ ha HV.out _ (by show B ≤ _; dsimp only; omega) _)
        · repeat (first | (with_reducible exact hkk) | refine kset HB.out ?_ _ (by show B ≤ _; dsimp only; omega) _)
      · have hbx := bx_new w 2 2 4 0 2 t l 1 r x 54
        have hk : Keeps NoS w (((w.alloc (.cells #[.int .i64 2, .int .i64 2, .int .i64 4, .int .i64 0, .int .i64 2] 54)).alloc (.cells #[.int .i64 t, .int .i64 l, .int .i64 1, .bool r, .int .i64 x] 37)).alloc (.cells #[.int .i64 0, .int .i64 0, .int .i64 0, .bool false, .int .i64 0] 37)) := (((Keeps.refl NoS w).alloc _).alloc _).alloc _
        have ha := blk_lt hA.hd
        have hv : ∀ g, v.ownBlock = some g → g < w.heap.size := fun g hg => hA.own_lt hg
        have hA2 := hA.keep hk (fun f => f) (fun _ _ f => f)
        obtain ⟨B, hB⟩ : ∃ B, w.heap.size = B := ⟨_, rfl⟩
        rw [hB] at hbx hv ha
        have HB := Lib.hid hB; have HA2 := Lib.hid hA2; have HK := Lib.hid hk; have HV := Lib.hid hv; have HBX := Lib.hid hbx; have HL := Lib.hid hl48
        clear hB hA2 hk hv hbx hl48 hA
        go_enter Try.func46, Try.ntmps46
        go_wp2_with fail
        (try rw [HB.out])
        refine (rmay8_any t l 1 r x _).mono ?_
        rw [HOK.out]
        rintro e w1 ⟨rfl, hk1⟩
        have hb1 := HBX.out.no hk1
        have hm1 := HA2.out.keep hk1 (fun f => f) (fun _ _ f => f)
        obtain ⟨⟨m0, m1, m2, m3, m4⟩, ⟨c0, c1, c2, c3, c4⟩, ⟨r0, r1, r2, r3, r4⟩, ⟨f0, f1, f2, f3, f4⟩, ⟨g0, g1, g2, g3, g4⟩, z1, z2⟩ := hb1.facts
        have HB1 := Lib.hid hb1; have HM1 := Lib.hid hm1; have HK1 := Lib.hid (HK.out.trans hk1)
        clear hb1 hm1
        go_upto_region 6 with (first
          | (go_at_call 28; refine (rlock_lit 2 2 4 0 2 l 3 _ HRD.out _).mono ?_; rintro e w5 ⟨rfl, hk5⟩; clear m0 m1 m2 m3 m4 c0 c1 c2 c3 c4 r0 r1 r2 r3 r4 f0 f1 f2 f3 f4 g0 g1 g2 g3 g4 z1 z2; have hb5 := HB1.out.no hk5; have hm5 := HM1.out.keep hk5 (fun f => f) (fun _ _ f => f); obtain ⟨⟨m0, m1, m2, m3, m4⟩, ⟨c0, c1, c2, c3, c4⟩, ⟨r0, r1, r2, r3, r4⟩, ⟨f0, f1, f2, f3, f4⟩, ⟨g0, g1, g2, g3, g4⟩, z1, z2⟩ := hb5.facts; have HB5 := Lib.hid hb5; have HM5 := Lib.hid hm5; clear hb5 hm5)
          | (go_at_call 34; have hct := rtake8_yes t l 1 r x a v M _ ht hl HM5.out HL.out; rw [HD.out] at hct; unfold handV at hct; dsimp only at hct; refine hct.mono ?_; clear hct; rintro e w4 ⟨rfl, hm, hk4⟩; have hb4 := HB5.out.own hk4 ha HV.out; clear m0 m1 m2 m3 m4 c0 c1 c2 c3 c4 r0 r1 r2 r3 r4 f0 f1 f2 f3 f4 g0 g1 g2 g3 g4 z1 z2; obtain ⟨⟨m0, m1, m2, m3, m4⟩, ⟨c0, c1, c2, c3, c4⟩, ⟨r0, r1, r2, r3, r4⟩, ⟨f0, f1, f2, f3, f4⟩, ⟨g0, g1, g2, g3, g4⟩, z1, z2⟩ := hb4.facts; have HB4 := Lib.hid hb4; have hkk : Keeps (own2m a v) w w4 := (HK1.out.trans hk5).no.trans hk4; clear hb4))
        have hbN := HB4.out.h5 t l s1 r x1
        have hmN : RefAt (((((w4.setCell ⟨B + 1, 0, none⟩ (.int .i64 t)).setCell ⟨B + 1, 1, none⟩ (.int .i64 l)).setCell ⟨B + 1, 2, none⟩ (.int .i64 s1)).setCell ⟨B + 1, 3, none⟩ (.bool r)).setCell ⟨B + 1, 4, none⟩ (.int .i64 x1)) a v M1 := by
          repeat (first | (with_reducible exact hm) | refine MemT.set (B := B) ?_ ha HV.out _ (by show B ≤ _; dsimp only; omega) _)
        have hkN : Keeps (own2m a v) w (((((w4.setCell ⟨B + 1, 0, none⟩ (.int .i64 t)).setCell ⟨B + 1, 1, none⟩ (.int .i64 l)).setCell ⟨B + 1, 2, none⟩ (.int .i64 s1)).setCell ⟨B + 1, 3, none⟩ (.bool r)).setCell ⟨B + 1, 4, none⟩ (.int .i64 x1)) := by
          repeat (first | (with_reducible exact hkk) | refine kset HB.out ?_ _ (by show B ≤ _; dsimp only; omega) _)
        generalize (((((w4.setCell ⟨B + 1, 0, none⟩ (.int .i64 t)).setCell ⟨B + 1, 1, none⟩ (.int .i64 l)).setCell ⟨B + 1, 2, none⟩ (.int .i64 s1)).setCell ⟨B + 1, 3, none⟩ (.bool r)).setCell ⟨B + 1, 4, none⟩ (.int .i64 x1)) = w6 at *
        clear hm hkk m0 m1 m2 m3 m4 c0 c1 c2 c3 c4 r0 r1 r2 r3 r4 f0 f1 f2 f3 f4 g0 g1 g2 g3 g4 z1 z2
        obtain ⟨⟨m0, m1, m2, m3, m4⟩, ⟨c0, c1, c2, c3, c4⟩, ⟨r0, r1, r2, r3, r4⟩, ⟨f0, f1, f2, f3, f4⟩, ⟨g0, g1, g2, g3, g4⟩, z1, z2⟩ := hbN.facts
        have HB6 := Lib.hid hbN; have HM6 := Lib.hid hmN; have HK6 := Lib.hid hkN
        have hm := hmN; have hkk := hkN
        clear hbN hmN hkN
        go_wp2_with fail
        refine bodyPost_ret (v := .agg #[.int .i64 t, .int .i64 l, .int .i64 s1, .bool r, .int .i64 x1]) (by simp [results, Try.results46, go_sem, *]) rfl ⟨rfl, ?_, ?_⟩
        · repeat (first | (with_reducible exact hm) | refine MemT.set (B := B) ?_ ha HV.out _ (by show B ≤ _; dsimp only; omega) _)
        · repeat (first | (with_reducible exact hkk) | refine kset HB.out ?_ _ (by show B ≤ _; dsimp only; omega) _)
      · have hbx := bx_new w 2 2 4 0 2 t l 2 r x 54
        have hk : Keeps NoS w (((w.alloc (.cells #[.int .i64 2, .int .i64 2, .int .i64 4, .int .i64 0, .int .i64 2] 54)).alloc (.cells #[.int .i64 t, .int .i64 l, .int .i64 2, .bool r, .int .i64 x] 37)).alloc (.cells #[.int .i64 0, .int .i64 0, .int .i64 0, .bool false, .int .i64 0] 37)) := (((Keeps.refl NoS w).alloc _).alloc _).alloc _
        have ha := blk_lt hA.hd
        have hv : ∀ g, v.ownBlock = some g → g < w.heap.size := fun g hg => hA.own_lt hg
        have hA2 := hA.keep hk (fun f => f) (fun _ _ f => f)
        obtain ⟨B, hB⟩ : ∃ B, w.heap.size = B := ⟨_, rfl⟩
        rw [hB] at hbx hv ha
        have HB := Lib.hid hB; have HA2 := Lib.hid hA2; have HK := Lib.hid hk; have HV := Lib.hid hv; have HBX := Lib.hid hbx; have HL := Lib.hid hl48
        clear hB hA2 hk hv hbx hl48 hA
        go_enter Try.func46, Try.ntmps46
        go_wp2_with fail
        (try rw [HB.out])
        refine (rmay8_any t l 2 r x _).mono ?_
        rw [HOK.out]
        rintro e w1 ⟨rfl, hk1⟩
        have hb1 := HBX.out.no hk1
        have hm1 := HA2.out.keep hk1 (fun f => f) (fun _ _ f => f)
        obtain ⟨⟨m0, m1, m2, m3, m4⟩, ⟨c0, c1, c2, c3, c4⟩, ⟨r0, r1, r2, r3, r4⟩, ⟨f0, f1, f2, f3, f4⟩, ⟨g0, g1, g2, g3, g4⟩, z1, z2⟩ := hb1.facts
        have HB1 := Lib.hid hb1; have HM1 := Lib.hid hm1; have HK1 := Lib.hid (HK.out.trans hk1)
        clear hb1 hm1
        go_upto_region 6 with (first
          | (go_at_call 28; refine (rlock_lit 2 2 4 0 2 l 3 _ HRD.out _).mono ?_; rintro e w5 ⟨rfl, hk5⟩; clear m0 m1 m2 m3 m4 c0 c1 c2 c3 c4 r0 r1 r2 r3 r4 f0 f1 f2 f3 f4 g0 g1 g2 g3 g4 z1 z2; have hb5 := HB1.out.no hk5; have hm5 := HM1.out.keep hk5 (fun f => f) (fun _ _ f => f); obtain ⟨⟨m0, m1, m2, m3, m4⟩, ⟨c0, c1, c2, c3, c4⟩, ⟨r0, r1, r2, r3, r4⟩, ⟨f0, f1, f2, f3, f4⟩, ⟨g0, g1, g2, g3, g4⟩, z1, z2⟩ := hb5.facts; have HB5 := Lib.hid hb5; have HM5 := Lib.hid hm5; clear hb5 hm5)
          | (go_at_call 34; have hct := rtake8_yes t l 2 r x a v M _ ht hl HM5.out HL.out; rw [HD.out] at hct; unfold handV at hct; dsimp only at hct; refine hct.mono ?_; clear hct; rintro e w4 ⟨rfl, hm, hk4⟩; have hb4 := HB5.out.own hk4 ha HV.out; clear m0 m1 m2 m3 m4 c0 c1 c2 c3 c4 r0 r1 r2 r3 r4 f0 f1 f2 f3 f4 g0 g1 g2 g3 g4 z1 z2; obtain ⟨⟨m0, m1, m2, m3, m4⟩, ⟨c0, c1, c2, c3, c4⟩, ⟨r0, r1, r2, r3, r4⟩, ⟨f0, f1, f2, f3, f4⟩, ⟨g0, g1, g2, g3, g4⟩, z1, z2⟩ := hb4.facts; have HB4 := Lib.hid hb4; have hkk : Keeps (own2m a v) w w4 := (HK1.out.trans hk5).no.trans hk4; clear hb4))
        have hbN := HB4.out.h5 t l s1 r x1
        have hmN : RefAt (((((w4.setCell ⟨B + 1, 0, none⟩ (.int .i64 t)).setCell ⟨B + 1, 1, none⟩ (.int .i64 l)).setCell ⟨B + 1, 2, none⟩ (.int .i64 s1)).setCell ⟨B + 1, 3, none⟩ (.bool r)).setCell ⟨B + 1, 4, none⟩ (.int .i64 x1)) a v M1 := by
          repeat (first | (with_reducible exact hm) | refine MemT.set (B := B) ?_ ha HV.out _ (by show B ≤ _; dsimp only; omega) _)
        have hkN : Keeps (own2m a v) w (((((w4.setCell ⟨B + 1, 0, none⟩ (.int .i64 t)).setCell ⟨B + 1, 1, none⟩ (.int .i64 l)).setCell ⟨B + 1, 2, none⟩ (.int .i64 s1)).setCell ⟨B + 1, 3, none⟩ (.bool r)).setCell ⟨B + 1, 4, none⟩ (.int .i64 x1)) := by
          repeat (first | (with_reducible exact hkk) | refine kset HB.out ?_ _ (by show B ≤ _; dsimp only; omega) _)
        generalize (((((w4.setCell ⟨B + 1, 0, none⟩ (.int .i64 t)).setCell ⟨B + 1, 1, none⟩ (.int .i64 l)).setCell ⟨B + 1, 2, none⟩ (.int .i64 s1)).setCell ⟨B + 1, 3, none⟩ (.bool r)).setCell ⟨B + 1, 4, none⟩ (.int .i64 x1)) = w6 at *
        clear hm hkk m0 m1 m2 m3 m4 c0 c1 c2 c3 c4 r0 r1 r2 r3 r4 f0 f1 f2 f3 f4 g0 g1 g2 g3 g4 z1 z2
        obtain ⟨⟨m0, m1, m2, m3, m4⟩, ⟨c0, c1, c2, c3, c4⟩, ⟨r0, r1, r2, r3, r4⟩, ⟨f0, f1, f2, f3, f4⟩, ⟨g0, g1, g2, g3, g4⟩, z1, z2⟩ := hbN.facts
        have HB6 := Lib.hid hbN; have HM6 := Lib.hid hmN; have HK6 := Lib.hid hkN
        have hm := hmN; have hkk := hkN
        clear hbN hmN hkN
        go_wp2_with fail
        refine bodyPost_ret (v := .agg #[.int .i64 t, .int .i64 l, .int .i64 s1, .bool r, .int .i64 x1]) (by simp [results, Try.results46, go_sem, *]) rfl ⟨rfl, ?_, ?_⟩
        · repeat (first | (with_reducible exact hm) | refine MemT.set (B := B) ?_ ha HV.out _ (by show B ≤ _; dsimp only; omega) _)
        · repeat (first | (with_reducible exact hkk) | refine kset HB.out ?_ _ (by show B ≤ _; dsimp only; omega) _)
      · have hbx := bx_new w 2 2 4 0 2 t l 3 r x 54
        have hk : Keeps NoS w (((w.alloc (.cells #[.int .i64 2, .int .i64 2, .int .i64 4, .int .i64 0, .int .i64 2] 54)).alloc (.cells #[.int .i64 t, .int .i64 l, .int .i64 3, .bool r, .int .i64 x] 37)).alloc (.cells #[.int .i64 0, .int .i64 0, .int .i64 0, .bool false, .int .i64 0] 37)) := (((Keeps.refl NoS w).alloc _).alloc _).alloc _
        have ha := blk_lt hA.hd
        have hv : ∀ g, v.ownBlock = some g → g < w.heap.size := fun g hg => hA.own_lt hg
        have hA2 := hA.keep hk (fun f => f) (fun _ _ f => f)
        obtain ⟨B, hB⟩ : ∃ B, w.heap.size = B := ⟨_, rfl⟩
        rw [hB] at hbx hv ha
        have HB := Lib.hid hB; have HA2 := Lib.hid hA2; have HK := Lib.hid hk; have HV := Lib.hid hv; have HBX := Lib.hid hbx; have HL := Lib.hid hl48
        clear hB hA2 hk hv hbx hl48 hA
        go_enter Try.func46, Try.ntmps46
        go_wp2_with fail
        (try rw [HB.out])
        refine (rmay8_any t l 3 r x _).mono ?_
        rw [HOK.out]
        rintro e w1 ⟨rfl, hk1⟩
        have hb1 := HBX.out.no hk1
        have hm1 := HA2.out.keep hk1 (fun f => f) (fun _ _ f => f)
        obtain ⟨⟨m0, m1, m2, m3, m4⟩, ⟨c0, c1, c2, c3, c4⟩, ⟨r0, r1, r2, r3, r4⟩, ⟨f0, f1, f2, f3, f4⟩, ⟨g0, g1, g2, g3, g4⟩, z1, z2⟩ := hb1.facts
        have HB1 := Lib.hid hb1; have HM1 := Lib.hid hm1; have HK1 := Lib.hid (HK.out.trans hk1)
        clear hb1 hm1
        go_upto_region 6 with (first
          | (go_at_call 28; refine (rlock_lit 2 2 4 0 2 l 3 _ HRD.out _).mono ?_; rintro e w5 ⟨rfl, hk5⟩; clear m0 m1 m2 m3 m4 c0 c1 c2 c3 c4 r0 r1 r2 r3 r4 f0 f1 f2 f3 f4 g0 g1 g2 g3 g4 z1 z2; have hb5 := HB1.out.no hk5; have hm5 := HM1.out.keep hk5 (fun f => f) (fun _ _ f => f); obtain ⟨⟨m0, m1, m2, m3, m4⟩, ⟨c0, c1, c2, c3, c4⟩, ⟨r0, r1, r2, r3, r4⟩, ⟨f0, f1, f2, f3, f4⟩, ⟨g0, g1, g2, g3, g4⟩, z1, z2⟩ := hb5.facts; have HB5 := Lib.hid hb5; have HM5 := Lib.hid hm5; clear hb5 hm5)
          | (go_at_call 34; have hct := rtake8_yes t l 3 r x a v M _ ht hl HM5.out HL.out; rw [HD.out] at hct; unfold handV at hct; dsimp only at hct; refine hct.mono ?_; clear hct; rintro e w4 ⟨rfl, hm, hk4⟩; have hb4 := HB5.out.own hk4 ha HV.out; clear m0 m1 m2 m3 m4 c0 c1 c2 c3 c4 r0 r1 r2 r3 r4 f0 f1 f2 f3 f4 g0 g1 g2 g3 g4 z1 z2; obtain ⟨⟨m0, m1, m2, m3, m4⟩, ⟨c0, c1, c2, c3, c4⟩, ⟨r0, r1, r2, r3, r4⟩, ⟨f0, f1, f2, f3, f4⟩, ⟨g0, g1, g2, g3, g4⟩, z1, z2⟩ := hb4.facts; have HB4 := Lib.hid hb4; have hkk : Keeps (own2m a v) w w4 := (HK1.out.trans hk5).no.trans hk4; clear hb4))
        have hbN := HB4.out.h5 t l s1 r x1
        have hmN : RefAt (((((w4.setCell ⟨B + 1, 0, none⟩ (.int .i64 t)).setCell ⟨B + 1, 1, none⟩ (.int .i64 l)).setCell ⟨B + 1, 2, none⟩ (.int .i64 s1)).setCell ⟨B + 1, 3, none⟩ (.bool r)).setCell ⟨B + 1, 4, none⟩ (.int .i64 x1)) a v M1 := by
          repeat (first | (with_reducible exact hm) | refine MemT.set (B := B) ?_ ha HV.out _ (by show B ≤ _; dsimp only; omega) _)
        have hkN : Keeps (own2m a v) w (((((w4.setCell ⟨B + 1, 0, none⟩ (.int .i64 t)).setCell ⟨B + 1, 1, none⟩ (.int .i64 l)).setCell ⟨B + 1, 2, none⟩ (.int .i64 s1)).setCell ⟨B + 1, 3, none⟩ (.bool r)).setCell ⟨B + 1, 4, none⟩ (.int .i64 x1)) := by
          repeat (first | (with_reducible exact hkk) | refine kset HB.out ?_ _ (by show B ≤ _; dsimp only; omega) _)
        generalize (((((w4.setCell ⟨B + 1, 0, none⟩ (.int .i64 t)).setCell ⟨B + 1, 1, none⟩ (.int .i64 l)).setCell ⟨B + 1, 2, none⟩ (.int .i64 s1)).setCell ⟨B + 1, 3, none⟩ (.bool r)).setCell ⟨B + 1, 4, none⟩ (.int .i64 x1)) = w6 at *
        clear hm hkk m0 m1 m2 m3 m4 c0 c1 c2 c3 c4 r0 r1 r2 r3 r4 f0 f1 f2 f3 f4 g0 g1 g2 g3 g4 z1 z2
        obtain ⟨⟨m0, m1, m2, m3, m4⟩, ⟨c0, c1, c2, c3, c4⟩, ⟨r0, r1, r2, r3, r4⟩, ⟨f0, f1, f2, f3, f4⟩, ⟨g0, g1, g2, g3, g4⟩, z1, z2⟩ := hbN.facts
        have HB6 := Lib.hid hbN; have HM6 := Lib.hid hmN; have HK6 := Lib.hid hkN
        have hm := hmN; have hkk := hkN
        clear hbN hmN hkN
        go_wp2_with fail
        refine bodyPost_ret (v := .agg #[.int .i64 t, .int .i64 l, .int .i64 s1, .bool r, .int .i64 x1]) (by simp [results, Try.results46, go_sem, *]) rfl ⟨rfl, ?_, ?_⟩
        · repeat (first | (with_reducible exact hm) | refine MemT.set (B := B) ?_ ha HV.out _ (by show B ≤ _; dsimp only; omega) _)
        · repeat (first | (with_reducible exact hkk) | refine kset HB.out ?_ _ (by show B ≤ _; dsimp only; omega) _)
      · have hbx := bx_new w 2 2 4 0 2 t l 4 r x 54
        have hk : Keeps NoS w (((w.alloc (.cells #[.int .i64 2, .int .i64 2, .int .i64 4, .int .i64 0, .int .i64 2] 54)).alloc (.cells #[.int .i64 t, .int .i64 l, .int .i64 4, .bool r, .int .i64 x] 37)).alloc (.cells #[.int .i64 0, .int .i64 0, .int .i64 0, .bool false, .int .i64 0] 37)) := (((Keeps.refl NoS w).alloc _).alloc _).alloc _
        have ha := blk_lt hA.hd
        have hv : ∀ g, v.ownBlock = some g → g < w.heap.size := fun g hg => hA.own_lt hg
        have hA2 := hA.keep hk (fun f => f) (fun _ _ f => f)
        obtain ⟨B, hB⟩ : ∃ B, w.heap.size = B := ⟨_, rfl⟩
        rw [hB] at hbx hv ha
        have HB := Lib.hid hB; have HA2 := Lib.hid hA2; have HK := Lib.hid hk; have HV := Lib.hid hv; have HBX := Lib.hid hbx; have HL := Lib.hid hl48
        clear hB hA2 hk hv hbx hl48 hA
        go_enter Try.func46, Try.ntmps46
        go_wp2_with fail
        (try rw [HB.out])
        refine (rmay8_any t l 4 r x _).mono ?_
        rw [HOK.out]
        rintro e w1 ⟨rfl, hk1⟩
        have hb1 := HBX.out.no hk1
        have hm1 := HA2.out.keep hk1 (fun f => f) (fun _ _ f => f)
        obtain ⟨⟨m0, m1, m2, m3, m4⟩, ⟨c0, c1, c2, c3, c4⟩, ⟨r0, r1, r2, r3, r4⟩, ⟨f0, f1, f2, f3, f4⟩, ⟨g0, g1, g2, g3, g4⟩, z1, z2⟩ := hb1.facts
        have HB1 := Lib.hid hb1; have HM1 := Lib.hid hm1; have HK1 := Lib.hid (HK.out.trans hk1)
        clear hb1 hm1
        go_upto_region 6 with (first
          | (go_at_call 28; refine (rlock_lit 2 2 4 0 2 l 3 _ HRD.out _).mono ?_; rintro e w5 ⟨rfl, hk5⟩; clear m0 m1 m2 m3 m4 c0 c1 c2 c3 c4 r0 r1 r2 r3 r4 f0 f1 f2 f3 f4 g0 g1 g2 g3 g4 z1 z2; have hb5 := HB1.out.no hk5; have hm5 := HM1.out.keep hk5 (fun f => f) (fun _ _ f => f); obtain ⟨⟨m0, m1, m2, m3, m4⟩, ⟨c0, c1, c2, c3, c4⟩, ⟨r0, r1, r2, r3, r4⟩, ⟨f0, f1, f2, f3, f4⟩, ⟨g0, g1, g2, g3, g4⟩, z1, z2⟩ := hb5.facts; have HB5 := Lib.hid hb5; have HM5 := Lib.hid hm5; clear hb5 hm5)
          | (go_at_call 34; have hct := rtake8_yes t l 4 r x a v M _ ht hl HM5.out HL.out; rw [HD.out] at hct; unfold handV at hct; dsimp only at hct; refine hct.mono ?_; clear hct; rintro e w4 ⟨rfl, hm, hk4⟩; have hb4 := HB5.out.own hk4 ha HV.out; clear m0 m1 m2 m3 m4 c0 c1 c2 c3 c4 r0 r1 r2 r3 r4 f0 f1 f2 f3 f4 g0 g1 g2 g3 g4 z1 z2; obtain ⟨⟨m0, m1, m2, m3, m4⟩, ⟨c0, c1, c2, c3, c4⟩, ⟨r0, r1, r2, r3, r4⟩, ⟨f0, f1, f2, f3, f4⟩, ⟨g0, g1, g2, g3, g4⟩, z1, z2⟩ := hb4.facts; have HB4 := Lib.hid hb4; have hkk : Keeps (own2m a v) w w4 := (HK1.out.trans hk5).no.trans hk4; clear hb4))
        have hbN := HB4.out.h5 t l s1 r x1
        have hmN : RefAt (((((w4.setCell ⟨B + 1, 0, none⟩ (.int .i64 t)).setCell ⟨B + 1, 1, none⟩ (.int .i64 l)).setCell ⟨B + 1, 2, none⟩ (.int .i64 s1)).setCell ⟨B + 1, 3, none⟩ (.bool r)).setCell ⟨B + 1, 4, none⟩ (.int .i64 x1)) a v M1 := by
          repeat (first | (with_reducible exact hm) | refine MemT.set (B := B) ?_ ha HV.out _ (by show B ≤ _; dsimp only; omega) _)
        have hkN : Keeps (own2m a v) w (((((w4.setCell ⟨B + 1, 0, none⟩ (.int .i64 t)).setCell ⟨B + 1, 1, none⟩ (.int .i64 l)).setCell ⟨B + 1, 2, none⟩ (.int .i64 s1)).setCell ⟨B + 1, 3, none⟩ (.bool r)).setCell ⟨B + 1, 4, none⟩ (.int .i64 x1)) := by
          repeat (first | (with_reducible exact hkk) | refine kset HB.out ?_ _ (by show B ≤ _; dsimp only; omega) _)
        generalize (((((w4.setCell ⟨B + 1, 0, none⟩ (.int .i64 t)).setCell ⟨B + 1, 1, none⟩ (.int .i64 l)).setCell ⟨B + 1, 2, none⟩ (.int .i64 s1)).setCell ⟨B + 1, 3, none⟩ (.bool r)).setCell ⟨B + 1, 4, none⟩ (.int .i64 x1)) = w6 at *
        clear hm hkk m0 m1 m2 m3 m4 c0 c1 c2 c3 c4 r0 r1 r2 r3 r4 f0 f1 f2 f3 f4 g0 g1 g2 g3 g4 z1 z2
        obtain ⟨⟨m0, m1, m2, m3, m4⟩, ⟨c0, c1, c2, c3, c4⟩, ⟨r0, r1, r2, r3, r4⟩, ⟨f0, f1, f2, f3, f4⟩, ⟨g0, g1, g2, g3, g4⟩, z1, z2⟩ := hbN.facts
        have HB6 := Lib.hid hbN; have HM6 := Lib.hid hmN; have HK6 := Lib.hid hkN
        have hm := hmN; have hkk := hkN
        clear hbN hmN hkN
        go_wp2_with fail
        refine bodyPost_ret (v := .agg #[.int .i64 t, .int .i64 l, .int .i64 s1, .bool r, .int .i64 x1]) (by simp [results, Try.results46, go_sem, *]) rfl ⟨rfl, ?_, ?_⟩
        · repeat (first | (with_reducible exact hm) | refine MemT.set (B := B) ?_ ha HV.out _ (by show B ≤ _; dsimp only; omega) _)
        · repeat (first | (with_reducible exact hkk) | refine kset HB.out ?_ _ (by show B ≤ _; dsimp only; omega) _)
      · have hbx := bx_new w 2 2 4 0 2 t l 5 r x 54
        have hk : Keeps NoS w (((w.alloc (.cells #[.int .i64 2, .int .i64 2, .int .i64 4, .int .i64 0, .int .i64 2] 54)).alloc (.cells #[.int .i64 t, .int .i64 l, .int .i64 5, .bool r, .int .i64 x] 37)).alloc (.cells #[.int .i64 0, .int .i64 0, .int .i64 0, .bool false, .int .i64 0] 37)) := (((Keeps.refl NoS w).alloc _).alloc _).alloc _
        have ha := blk_lt hA.hd
        have hv : ∀ g, v.ownBlock = some g → g < w.heap.size := fun g hg => hA.own_lt hg
        have hA2 := hA.keep hk (fun f => f) (fun _ _ f => f)
        obtain ⟨B, hB⟩ : ∃ B, w.heap.size = B := ⟨_, rfl⟩
        rw [hB] at hbx hv ha
        have HB := Lib.hid hB; have HA2 := Lib.hid hA2; have HK := Lib.hid hk; have HV := Lib.hid hv; have HBX := Lib.hid hbx; have HL := Lib.hid hl48
        clear hB hA2 hk hv hbx hl48 hA
        go_enter Try.func46, Try.ntmps46
        go_wp2_with fail
        (try rw [HB.out])
        refine (rmay8_any t l 5 r x _).mono ?_
        rw [HOK.out]
        rintro e w1 ⟨rfl, hk1⟩
        have hb1 := HBX.out.no hk1
        have hm1 := HA2.out.keep hk1 (fun f => f) (fun _ _ f => f)
        obtain ⟨⟨m0, m1, m2, m3, m4⟩, ⟨c0, c1, c2, c3, c4⟩, ⟨r0, r1, r2, r3, r4⟩, ⟨f0, f1, f2, f3, f4⟩, ⟨g0, g1, g2, g3, g4⟩, z1, z2⟩ := hb1.facts
        have HB1 := Lib.hid hb1; have HM1 := Lib.hid hm1; have HK1 := Lib.hid (HK.out.trans hk1)
        clear hb1 hm1
        go_upto_region 6 with (first
          | (go_at_call 28; refine (rlock_lit 2 2 4 0 2 l 3 _ HRD.out _).mono ?_; rintro e w5 ⟨rfl, hk5⟩; clear m0 m1 m2 m3 m4 c0 c1 c2 c3 c4 r0 r1 r2 r3 r4 f0 f1 f2 f3 f4 g0 g1 g2 g3 g4 z1 z2; have hb5 := HB1.out.no hk5; have hm5 := HM1.out.keep hk5 (fun f => f) (fun _ _ f => f); obtain ⟨⟨m0, m1, m2, m3, m4⟩, ⟨c0, c1, c2, c3, c4⟩, ⟨r0, r1, r2, r3, r4⟩, ⟨f0, f1, f2, f3, f4⟩, ⟨g0, g1, g2, g3, g4⟩, z1, z2⟩ := hb5.facts; have HB5 := Lib.hid hb5; have HM5 := Lib.hid hm5; clear hb5 hm5)
          | (go_at_call 34; have hct := rtake8_yes t l 5 r x a v M _ ht hl HM5.out HL.out; rw [HD.out] at hct; unfold handV at hct; dsimp only at hct; refine hct.mono ?_; clear hct; rintro e w4 ⟨rfl, hm, hk4⟩; have hb4 := HB5.out.own hk4 ha HV.out; clear m0 m1 m2 m3 m4 c0 c1 c2 c3 c4 r0 r1 r2 r3 r4 f0 f1 f2 f3 f4 g0 g1 g2 g3 g4 z1 z2; obtain ⟨⟨m0, m1, m2, m3, m4⟩, ⟨c0, c1, c2, c3, c4⟩, ⟨r0, r1, r2, r3, r4⟩, ⟨f0, f1, f2, f3, f4⟩, ⟨g0, g1, g2, g3, g4⟩, z1, z2⟩ := hb4.facts; have HB4 := Lib.hid hb4; have hkk : Keeps (own2m a v) w w4 := (HK1.out.trans hk5).no.trans hk4; clear hb4))
        have hbN := HB4.out.h5 t l s1 r x1
        have hmN : RefAt (((((w4.setCell ⟨B + 1, 0, none⟩ (.int .i64 t)).setCell ⟨B + 1, 1, none⟩ (.int .i64 l)).setCell ⟨B + 1, 2, none⟩ (.int .i64 s1)).setCell ⟨B + 1, 3, none⟩ (.bool r)).setCell ⟨B + 1, 4, none⟩ (.int .i64 x1)) a v M1 := by
          repeat (first | (with_reducible exact hm) | refine MemT.set (B := B) ?_ ha HV.out _ (by show B ≤ _; dsimp only; omega) _)
        have hkN : Keeps (own2m a v) w (((((w4.setCell ⟨B + 1, 0, none⟩ (.int .i64 t)).setCell ⟨B + 1, 1, none⟩ (.int .i64 l)).setCell ⟨B + 1, 2, none⟩ (.int .i64 s1)).setCell ⟨B + 1, 3, none⟩ (.bool r)).setCell ⟨B + 1, 4, none⟩ (.int .i64 x1)) := by
          repeat (first | (with_reducible exact hkk) | refine kset HB.out ?_ _ (by show B ≤ _; dsimp only; omega) _)
        generalize (((((w4.setCell ⟨B + 1, 0, none⟩ (.int .i64 t)).setCell ⟨B + 1, 1, none⟩ (.int .i64 l)).setCell ⟨B + 1, 2, none⟩ (.int .i64 s1)).setCell ⟨B + 1, 3, none⟩ (.bool r)).setCell ⟨B + 1, 4, none⟩ (.int .i64 x1)) = w6 at *
        clear hm hkk m0 m1 m2 m3 m4 c0 c1 c2 c3 c4 r0 r1 r2 r3 r4 f0 f1 f2 f3 f4 g0 g1 g2 g3 g4 z1 z2
        obtain ⟨⟨m0, m1, m2, m3, m4⟩, ⟨c0, c1, c2, c3, c4⟩, ⟨r0, r1, r2, r3, r4⟩, ⟨f0, f1, f2, f3, f4⟩, ⟨g0, g1, g2, g3, g4⟩, z1, z2⟩ := hbN.facts
        have HB6 := Lib.hid hbN; have HM6 := Lib.hid hmN; have HK6 := Lib.hid hkN
        have hm := hmN; have hkk := hkN
        clear hbN hmN hkN
        go_wp2_with fail
        refine bodyPost_ret (v := .agg #[.int .i64 t, .int .i64 l, .int .i64 s1, .bool r, .int .i64 x1]) (by simp [results, Try.results46, go_sem, *]) rfl ⟨rfl, ?_, ?_⟩
        · repeat (first | (with_reducible exact hm) | refine MemT.set (B := B) ?_ ha HV.out _ (by show B ≤ _; dsimp only; omega) _)
        · repeat (first | (with_reducible exact hkk) | refine kset HB.out ?_ _ (by show B ≤ _; dsimp only; omega) _)
  by_cases h10 : s = 10
  · subst h10
    cases r with
    | true =>
      rw [show wTake M t l 10 true x = (M.add (rdA l) 1, ⟨t, l, 11, true, x⟩) from rfl]
      unfold handV
      dsimp only
      have hbx := bx_new w 2 2 4 0 2 t l 10 true x 54
      have hk : Keeps NoS w (((w.alloc (.cells #[.int .i64 2, .int .i64 2, .int .i64 4, .int .i64 0, .int .i64 2] 54)).alloc (.cells #[.int .i64 t, .int .i64 l, .int .i64 10, .bool true, .int .i64 x] 37)).alloc (.cells #[.int .i64 0, .int .i64 0, .int .i64 0, .bool false, .int .i64 0] 37)) := (((Keeps.refl NoS w).alloc _).alloc _).alloc _
      have ha := blk_lt hA.hd
      have hv : ∀ g, v.ownBlock = some g → g < w.heap.size := fun g hg => hA.own_lt hg
      have hA2 := hA.keep hk (fun f => f) (fun _ _ f => f)
      obtain ⟨B, hB⟩ : ∃ B, w.heap.size = B := ⟨_, rfl⟩
      rw [hB] at hbx hv ha
      have HB := Lib.hid hB; have HA2 := Lib.hid hA2; have HK := Lib.hid hk; have HV := Lib.hid hv; have HBX := Lib.hid hbx; have HL := Lib.hid hl48
      clear hB hA2 hk hv hbx hl48 hA
      go_enter Try.func46, Try.ntmps46
      go_wp2_with fail
      (try rw [HB.out])
      refine (rmay8_any t l 10 true x _).mono ?_
      rw [HOK.out]
      rintro e w1 ⟨rfl, hk1⟩
      have hb1 := HBX.out.no hk1
      have hm1 := HA2.out.keep hk1 (fun f => f) (fun _ _ f => f)
      obtain ⟨⟨m0, m1, m2, m3, m4⟩, ⟨c0, c1, c2, c3, c4⟩, ⟨r0, r1, r2, r3, r4⟩, ⟨f0, f1, f2, f3, f4⟩, ⟨g0, g1, g2, g3, g4⟩, z1, z2⟩ := hb1.facts
      have HB1 := Lib.hid hb1; have HM1 := Lib.hid hm1; have HK1 := Lib.hid (HK.out.trans hk1)
      clear hb1 hm1
      go_wp2_with (first
        | (go_at_call 28; refine (rlock_lit 2 2 4 0 2 l 3 _ HRD.out _).mono ?_; rintro e w5 ⟨rfl, hk5⟩; clear m0 m1 m2 m3 m4 c0 c1 c2 c3 c4 r0 r1 r2 r3 r4 f0 f1 f2 f3 f4 g0 g1 g2 g3 g4 z1 z2; have hb5 := HB1.out.no hk5; have hm5 := HM1.out.keep hk5 (fun f => f) (fun _ _ f => f); obtain ⟨⟨m0, m1, m2, m3, m4⟩, ⟨c0, c1, c2, c3, c4⟩, ⟨r0, r1, r2, r3, r4⟩, ⟨f0, f1, f2, f3, f4⟩, ⟨g0, g1, g2, g3, g4⟩, z1, z2⟩ := hb5.facts; have HB5 := Lib.hid hb5; have HM5 := Lib.hid hm5; clear hb5 hm5)
        | (go_at_call 72; rw [← HAA.out]; refine (radd_ok a v M (rdA l) 1 _ HM5.out HRL.out).mono ?_; rintro e w4 ⟨rfl, hm, hk4⟩; have hb4 := HB5.out.own hk4 ha HV.out; clear m0 m1 m2 m3 m4 c0 c1 c2 c3 c4 r0 r1 r2 r3 r4 f0 f1 f2 f3 f4 g0 g1 g2 g3 g4 z1 z2; obtain ⟨⟨m0, m1, m2, m3, m4⟩, ⟨c0, c1, c2, c3, c4⟩, ⟨r0, r1, r2, r3, r4⟩, ⟨f0, f1, f2, f3, f4⟩, ⟨g0, g1, g2, g3, g4⟩, z1, z2⟩ := hb4.facts; have HB4 := Lib.hid hb4; have hkk : Keeps (own2m a v) w w4 := (HK1.out.trans hk5).no.trans hk4; clear hb4))
      refine bodyPost_ret (v := .agg #[.int .i64 t, .int .i64 l, .int .i64 11, .bool true, .int .i64 x]) (by simp [results, Try.results46, go_sem, *]) rfl ⟨rfl, ?_, ?_⟩
      · repeat (first | (with_reducible exact hm) | refine MemT.set (B := B) ?_ ha HV.out _ (by show B ≤ _; dsimp only; omega) _)
      · repeat (first | (with_reducible exact hkk) | refine kset HB.out ?_ _ (by show B ≤ _; dsimp only; omega) _)
    | false =>
      obtain ⟨c, hc⟩ : ∃ c, M.word (rdA l) = c := ⟨_, rfl⟩
      rw [show wTake M t l 10 false x = (M.load (rdA l), ⟨t, l, if c = 0 then 9 else 10, false, x⟩) by rw [← hc]; rfl]
      unfold handV
      dsimp only
      by_cases hc0 : c = 0
      · subst hc0
        rw [if_pos rfl]
        have HC := Lib.hid hc
        clear hc
        have hbx := bx_new w 2 2 4 0 2 t l 10 false x 54
        have hk : Keeps NoS w (((w.alloc (.cells #[.int .i64 2, .int .i64 2, .int .i64 4, .int .i64 0, .int .i64 2] 54)).alloc (.cells #[.int .i64 t, .int .i64 l, .int .i64 10, .bool false, .int .i64 x] 37)).alloc (.cells #[.int .i64 0, .int .i64 0, .int .i64 0, .bool false, .int .i64 0] 37)) := (((Keeps.refl NoS w).alloc _).alloc _).alloc _
        have ha := blk_lt hA.hd
        have hv : ∀ g, v.ownBlock = some g → g < w.heap.size := fun g hg => hA.own_lt hg
        have hA2 := hA.keep hk (fun f => f) (fun _ _ f => f)
        obtain ⟨B, hB⟩ : ∃ B, w.heap.size = B := ⟨_, rfl⟩
        rw [hB] at hbx hv ha
        have HB := Lib.hid hB; have HA2 := Lib.hid hA2; have HK := Lib.hid hk; have HV := Lib.hid hv; have HBX := Lib.hid hbx; have HL := Lib.hid hl48
        clear hB hA2 hk hv hbx hl48 hA
        go_enter Try.func46, Try.ntmps46
        go_wp2_with fail
        (try rw [HB.out])
        refine (rmay8_any t l 10 false x _).mono ?_
        rw [HOK.out]
        rintro e w1 ⟨rfl, hk1⟩
        have hb1 := HBX.out.no hk1
        have hm1 := HA2.out.keep hk1 (fun f => f) (fun _ _ f => f)
        obtain ⟨⟨m0, m1, m2, m3, m4⟩, ⟨c0, c1, c2, c3, c4⟩, ⟨r0, r1, r2, r3, r4⟩, ⟨f0, f1, f2, f3, f4⟩, ⟨g0, g1, g2, g3, g4⟩, z1, z2⟩ := hb1.facts
        have HB1 := Lib.hid hb1; have HM1 := Lib.hid hm1; have HK1 := Lib.hid (HK.out.trans hk1)
        clear hb1 hm1
        go_wp2_with (first
          | (go_at_call 28; refine (rlock_lit 2 2 4 0 2 l 3 _ HRD.out _).mono ?_; rintro e w5 ⟨rfl, hk5⟩; clear m0 m1 m2 m3 m4 c0 c1 c2 c3 c4 r0 r1 r2 r3 r4 f0 f1 f2 f3 f4 g0 g1 g2 g3 g4 z1 z2; have hb5 := HB1.out.no hk5; have hm5 := HM1.out.keep hk5 (fun f => f) (fun _ _ f => f); obtain ⟨⟨m0, m1, m2, m3, m4⟩, ⟨c0, c1, c2, c3, c4⟩, ⟨r0, r1, r2, r3, r4⟩, ⟨f0, f1, f2, f3, f4⟩, ⟨g0, g1, g2, g3, g4⟩, z1, z2⟩ := hb5.facts; have HB5 := Lib.hid hb5; have HM5 := Lib.hid hm5; clear hb5 hm5)
          | (go_at_call 65; rw [← HAA.out]; refine (rload_ok a v M (rdA l) _ HM5.out HRL.out).mono ?_; rw [HC.out]; rintro e w4 ⟨rfl, hm, hk4'⟩; have hk4 : Keeps (own2m a v) w5 w4 := hk4'.mono (fun _ e => .inl e); have hb4 := HB5.out.own hk4 ha HV.out; clear m0 m1 m2 m3 m4 c0 c1 c2 c3 c4 r0 r1 r2 r3 r4 f0 f1 f2 f3 f4 g0 g1 g2 g3 g4 z1 z2; obtain ⟨⟨m0, m1, m2, m3, m4⟩, ⟨c0, c1, c2, c3, c4⟩, ⟨r0, r1, r2, r3, r4⟩, ⟨f0, f1, f2, f3, f4⟩, ⟨g0, g1, g2, g3, g4⟩, z1, z2⟩ := hb4.facts; have HB4 := Lib.hid hb4; have hkk : Keeps (own2m a v) w w4 := (HK1.out.trans hk5).no.trans hk4; clear hb4))
        refine bodyPost_ret (v := .agg #[.int .i64 t, .int .i64 l, .int .i64 9, .bool false, .int .i64 x]) (by simp [results, Try.results46, go_sem, *]) rfl ⟨rfl, ?_, ?_⟩
        · repeat (first | (with_reducible exact hm) | refine MemT.set (B := B) ?_ ha HV.out _ (by show B ≤ _; dsimp only; omega) _)
        · repeat (first | (with_reducible exact hkk) | refine kset HB.out ?_ _ (by show B ≤ _; dsimp only; omega) _)
      · rw [if_neg hc0]
        have HC := Lib.hid hc
        have hc1 : (c == 0) = false := by simpa using hc0
        clear hc hc0
        have hbx := bx_new w 2 2 4 0 2 t l 10 false x 54
        have hk : Keeps NoS w (((w.alloc (.cells #[.int .i64 2, .int .i64 2, .int .i64 4, .int .i64 0, .int .i64 2] 54)).alloc (.cells #[.int .i64 t, .int .i64 l, .int .i64 10, .bool false, .int .i64 x] 37)).alloc (.cells #[.int .i64 0, .int .i64 0, .int .i64 0, .bool false, .int .i64 0] 37)) := (((Keeps.refl NoS w).alloc _).alloc _).alloc _
        have ha := blk_lt hA.hd
        have hv : ∀ g, v.ownBlock = some g → g < w.heap.size := fun g hg => hA.own_lt hg
        have hA2 := hA.keep hk (fun f => f) (fun _ _ f => f)
        obtain ⟨B, hB⟩ : ∃ B, w.heap.size = B := ⟨_, rfl⟩
        rw [hB] at hbx hv ha
        have HB := Lib.hid hB; have HA2 := Lib.hid hA2; have HK := Lib.hid hk; have HV := Lib.hid hv; have HBX := Lib.hid hbx; have HL := Lib.hid hl48
        clear hB hA2 hk hv hbx hl48 hA
        go_enter Try.func46, Try.ntmps46
        go_wp2_with fail
        (try rw [HB.out])
        refine (rmay8_any t l 10 false x _).mono ?_
        rw [HOK.out]
        rintro e w1 ⟨rfl, hk1⟩
        have hb1 := HBX.out.no hk1
        have hm1 := HA2.out.keep hk1 (fun f => f) (fun _ _ f => f)
        obtain ⟨⟨m0, m1, m2, m3, m4⟩, ⟨c0, c1, c2, c3, c4⟩, ⟨r0, r1, r2, r3, r4⟩, ⟨f0, f1, f2, f3, f4⟩, ⟨g0, g1, g2, g3, g4⟩, z1, z2⟩ := hb1.facts
        have HB1 := Lib.hid hb1; have HM1 := Lib.hid hm1; have HK1 := Lib.hid (HK.out.trans hk1)
        clear hb1 hm1
        go_wp2_with (first
          | (go_at_call 28; refine (rlock_lit 2 2 4 0 2 l 3 _ HRD.out _).mono ?_; rintro e w5 ⟨rfl, hk5⟩; clear m0 m1 m2 m3 m4 c0 c1 c2 c3 c4 r0 r1 r2 r3 r4 f0 f1 f2 f3 f4 g0 g1 g2 g3 g4 z1 z2; have hb5 := HB1.out.no hk5; have hm5 := HM1.out.keep hk5 (fun f => f) (fun _ _ f => f); obtain ⟨⟨m0, m1, m2, m3, m4⟩, ⟨c0, c1, c2, c3, c4⟩, ⟨r0, r1, r2, r3, r4⟩, ⟨f0, f1, f2, f3, f4⟩, ⟨g0, g1, g2, g3, g4⟩, z1, z2⟩ := hb5.facts; have HB5 := Lib.hid hb5; have HM5 := Lib.hid hm5; clear hb5 hm5)
          | (go_at_call 65; rw [← HAA.out]; refine (rload_ok a v M (rdA l) _ HM5.out HRL.out).mono ?_; rw [HC.out]; rintro e w4 ⟨rfl, hm, hk4'⟩; have hk4 : Keeps (own2m a v) w5 w4 := hk4'.mono (fun _ e => .inl e); have hb4 := HB5.out.own hk4 ha HV.out; clear m0 m1 m2 m3 m4 c0 c1 c2 c3 c4 r0 r1 r2 r3 r4 f0 f1 f2 f3 f4 g0 g1 g2 g3 g4 z1 z2; obtain ⟨⟨m0, m1, m2, m3, m4⟩, ⟨c0, c1, c2, c3, c4⟩, ⟨r0, r1, r2, r3, r4⟩, ⟨f0, f1, f2, f3, f4⟩, ⟨g0, g1, g2, g3, g4⟩, z1, z2⟩ := hb4.facts; have HB4 := Lib.hid hb4; have hkk : Keeps (own2m a v) w w4 := (HK1.out.trans hk5).no.trans hk4; clear hb4))
        refine bodyPost_ret (v := .agg #[.int .i64 t, .int .i64 l, .int .i64 10, .bool false, .int .i64 x]) (by simp [results, Try.results46, go_sem, *]) rfl ⟨rfl, ?_, ?_⟩
        · repeat (first | (with_reducible exact hm) | refine MemT.set (B := B) ?_ ha HV.out _ (by show B ≤ _; dsimp only; omega) _)
        · repeat (first | (with_reducible exact hkk) | refine kset HB.out ?_ _ (by show B ≤ _; dsimp only; omega) _)
  by_cases hs14 : 11 ≤ s ∧ s ≤ 14
  · cases r with
    | false =>
      rw [show wTake M t l s false x = (M, ⟨t, l, s, false, x⟩) by unfold wTake; rw [if_neg hs05, if_neg h10, if_neg (by simp)]]
      unfold handV
      dsimp only
      clear hs05 h10
      have hs : s = 11 ∨ s = 12 ∨ s = 13 ∨ s = 14 := by omega
      clear hs14
      rcases hs with rfl | rfl | rfl | rfl
      · have hbx := bx_new w 2 2 4 0 2 t l 11 false x 54
        have hk : Keeps NoS w (((w.alloc (.cells #[.int .i64 2, .int .i64 2, .int .i64 4, .int .i64 0, .int .i64 2] 54)).alloc (.cells #[.int .i64 t, .int .i64 l, .int .i64 11, .bool false, .int .i64 x] 37)).alloc (.cells #[.int .i64 0, .int .i64 0, .int .i64 0, .bool false, .int .i64 0] 37)) := (((Keeps.refl NoS w).alloc _).alloc _).alloc _
        have ha := blk_lt hA.hd
        have hv : ∀ g, v.ownBlock = some g → g < w.heap.size := fun g hg => hA.own_lt hg
        have hA2 := hA.keep hk (fun f => f) (fun _ _ f => f)
        obtain ⟨B, hB⟩ : ∃ B, w.heap.size = B := ⟨_, rfl⟩
        rw [hB] at hbx hv ha
        have HB := Lib.hid hB; have HA2 := Lib.hid hA2; have HK := Lib.hid hk; have HV := Lib.hid hv; have HBX := Lib.hid hbx; have HL := Lib.hid hl48
        clear hB hA2 hk hv hbx hl48 hA
        go_enter Try.func46, Try.ntmps46
        go_wp2_with fail
        (try rw [HB.out])
        refine (rmay8_any t l 11 false x _).mono ?_
        rw [HOK.out]
        rintro e w1 ⟨rfl, hk1⟩
        have hb1 := HBX.out.no hk1
        have hm1 := HA2.out.keep hk1 (fun f => f) (fun _ _ f => f)
        obtain ⟨⟨m0, m1, m2, m3, m4⟩, ⟨c0, c1, c2, c3, c4⟩, ⟨r0, r1, r2, r3, r4⟩, ⟨f0, f1, f2, f3, f4⟩, ⟨g0, g1, g2, g3, g4⟩, z1, z2⟩ := hb1.facts
        have HB1 := Lib.hid hb1; have HM1 := Lib.hid hm1; have HK1 := Lib.hid (HK.out.trans hk1)
        clear hb1 hm1
        go_wp2_with (first
          | (go_at_call 28; refine (rlock_lit 2 2 4 0 2 l 3 _ HRD.out _).mono ?_; rintro e w5 ⟨rfl, hk5⟩; clear m0 m1 m2 m3 m4 c0 c1 c2 c3 c4 r0 r1 r2 r3 r4 f0 f1 f2 f3 f4 g0 g1 g2 g3 g4 z1 z2; have hb5 := HB1.out.no hk5; have hm5 := HM1.out.keep hk5 (fun f => f) (fun _ _ f => f); obtain ⟨⟨m0, m1, m2, m3, m4⟩, ⟨c0, c1, c2, c3, c4⟩, ⟨r0, r1, r2, r3, r4⟩, ⟨f0, f1, f2, f3, f4⟩, ⟨g0, g1, g2, g3, g4⟩, z1, z2⟩ := hb5.facts; have HB5 := Lib.hid hb5; have HM5 := Lib.hid hm5; clear hb5 hm5))
        have hm := HM5.out
        have hkk : Keeps (own2m a v) w w5 := (HK1.out.trans hk5).no
        refine bodyPost_ret (v := .agg #[.int .i64 t, .int .i64 l, .int .i64 11, .bool false, .int .i64 x]) (by simp [results, Try.results46, go_sem, *]) rfl ⟨rfl, ?_, ?_⟩
        · repeat (first | (with_reducible exact hm) | refine MemT.set (B := B) ?_ ha HV.out _ (by show B ≤ _; dsimp only; omega) _)
        · repeat (first | (with_reducible exact hkk) | refine kset HB.out ?_ _ (by show B ≤ _; dsimp only; omega) _)
      · have hbx := bx_new w 2 2 4 0 2 t l 12 false x 54
        have hk : Keeps NoS w (((w.alloc (.cells #[.int .i64 2, .int .i64 2, .int .i64 4, .int .i64 0, .int .i64 2] 54)).alloc (.cells #[.int .i64 t, .int .i64 l, .int .i64 12, .bool false, .int .i64 x] 37)).alloc (.cells #[.int .i64 0, .int .i64 0, .int .i64 0, .bool false, .int .i64 0] 37)) := (((Keeps.refl NoS w).alloc _).alloc _).alloc _
        have ha := blk_lt hA.hd
        have hv : ∀ g, v.ownBlock = some g → g < w.heap.size := fun g hg => hA.own_lt hg
        have hA2 := hA.keep hk (fun f => f) (fun _ _ f => f)
        obtain ⟨B, hB⟩ : ∃ B, w.heap.size = B := ⟨_, rfl⟩
        rw [hB] at hbx hv ha
        have HB := Lib.hid hB; have HA2 := Lib.hid hA2; have HK := Lib.hid hk; have HV := Lib.hid hv; have HBX := Lib.hid hbx; have HL := Lib.hid hl48
        clear hB hA2 hk hv hbx hl48 hA
        go_enter Try.func46, Try.ntmps46
        go_wp2_with fail
        (try rw [HB.out])
        refine (rmay8_any t l 12 false x _).mono ?_
        rw [HOK.out]
        rintro e w1 ⟨rfl, hk1⟩
        have hb1 := HBX.out.no hk1
        have hm1 := HA2.out.keep hk1 (fun f => f) (fun _ _ f => f)
        obtain ⟨⟨m0, m1, m2, m3, m4⟩, ⟨c0, c1, c2, c3, c4⟩, ⟨r0, r1, r2, r3, r4⟩, ⟨f0, f1, f2, f3, f4⟩, ⟨g0, g1, g2, g3, g4⟩, z1, z2⟩ := hb1.facts
        have HB1 := Lib.hid hb1; have HM1 := Lib.hid hm1; have HK1 := Lib.hid (HK.out.trans hk1)
        clear hb1 hm1
        go_wp2_with (first
          | (go_at_call 28; refine (rlock_lit 2 2 4 0 2 l 3 _ HRD.out _).mono ?_; rintro e w5 ⟨rfl, hk5⟩; clear m0 m1 m2 m3 m4 c0 c1 c2 c3 c4 r0 r1 r2 r3 r4 f0 f1 f2 f3 f4 g0 g1 g2 g3 g4 z1 z2; have hb5 := HB1.out.no hk5; have hm5 := HM1.out.keep hk5 (fun f => f) (fun _ _ f => f); obtain ⟨⟨m0, m1, m2, m3, m4⟩, ⟨c0, c1, c2, c3, c4⟩, ⟨r0, r1, r2, r3, r4⟩, ⟨f0, f1, f2, f3, f4⟩, ⟨g0, g1, g2, g3, g4⟩, z1, z2⟩ := hb5.facts; have HB5 := Lib.hid hb5; have HM5 := Lib.hid hm5; clear hb5 hm5))
        have hm := HM5.out
        have hkk : Keeps (own2m a v) w w5 := (HK1.out.trans hk5).no
        refine bodyPost_ret (v := .agg #[.int .i64 t, .int .i64 l, .int .i64 12, .bool false, .int .i64 x]) (by simp [results, Try.results46, go_sem, *]) rfl ⟨rfl, ?_, ?_⟩
        · repeat (first | (with_reducible exact hm) | refine MemT.set (B := B) ?_ ha HV.out _ (by show B ≤ _; dsimp only; omega) _)
        · repeat (first | (with_reducible exact hkk) | refine kset HB.out ?_ _ (by show B ≤ _; dsimp only; omega) _)
      · have hbx := bx_new w 2 2 4 0 2 t l 13 false x 54
        have hk : Keeps NoS w (((w.alloc (.cells #[.int .i64 2, .int .i64 2, .int .i64 4, .int .i64 0, .int .i64 2] 54)).alloc (.cells #[.int .i64 t, .int .i64 l, .int .i64 13, .bool false, .int .i64 x] 37)).alloc (.cells #[.int .i64 0, .int .i64 0, .int .i64 0, .bool false, .int .i64 0] 37)) := (((Keeps.refl NoS w).alloc _).alloc _).alloc _
        have ha := blk_lt hA.hd
        have hv : ∀ g, v.ownBlock = some g → g < w.heap.size := fun g hg => hA.own_lt hg
        have hA2 := hA.keep hk (fun f => f) (fun _ _ f => f)
        obtain ⟨B, hB⟩ : ∃ B, w.heap.size = B := ⟨_, rfl⟩
        rw [hB] at hbx hv ha
        have HB := Lib.hid hB; have HA2 := Lib.hid hA2; have HK := Lib.hid hk; have HV := Lib.hid hv; have HBX := Lib.hid hbx; have HL := Lib.hid hl48
        clear hB hA2 hk hv hbx hl48 hA
        go_enter Try.func46, Try.ntmps46
        go_wp2_with fail
        (try rw [HB.out])
        refine (rmay8_any t l 13 false x _).mono ?_
        rw [HOK.out]
        rintro e w1 ⟨rfl, hk1⟩
        have hb1 := HBX.out.no hk1
        have hm1 := HA2.out.keep hk1 (fun f => f) (fun _ _ f => f)
        obtain ⟨⟨m0, m1, m2, m3, m4⟩, ⟨c0, c1, c2, c3, c4⟩, ⟨r0, r1, r2, r3, r4⟩, ⟨f0, f1, f2, f3, f4⟩, ⟨g0, g1, g2, g3, g4⟩, z1, z2⟩ := hb1.facts
        have HB1 := Lib.hid hb1; have HM1 := Lib.hid hm1; have HK1 := Lib.hid (HK.out.trans hk1)
        clear hb1 hm1
        go_wp2_with (first
          | (go_at_call 28; refine (rlock_lit 2 2 4 0 2 l 3 _ HRD.out _).mono ?_; rintro e w5 ⟨rfl, hk5⟩; clear m0 m1 m2 m3 m4 c0 c1 c2 c3 c4 r0 r1 r2 r3 r4 f0 f1 f2 f3 f4 g0 g1 g2 g3 g4 z1 z2; have hb5 := HB1.out.no hk5; have hm5 := HM1.out.keep hk5 (fun f => f) (fun _ _ f => f); obtain ⟨⟨m0, m1, m2, m3, m4⟩, ⟨c0, c1, c2, c3, c4⟩, ⟨r0, r1, r2, r3, r4⟩, ⟨f0, f1, f2, f3, f4⟩, ⟨g0, g1, g2, g3, g4⟩, z1, z2⟩ := hb5.facts; have HB5 := Lib.hid hb5; have HM5 := Lib.hid hm5; clear hb5 hm5))
        have hm := HM5.out
        have hkk : Keeps (own2m a v) w w5 := (HK1.out.trans hk5).no
        refine bodyPost_ret (v := .agg #[.int .i64 t, .int .i64 l, .int .i64 13, .bool false, .int .i64 x]) (by simp [results, Try.results46, go_sem, *]) rfl ⟨rfl, ?_, ?_⟩
        · repeat (first | (with_reducible exact hm) | refine MemT.set (B := B) ?_ ha HV.out _ (by show B ≤ _; dsimp only; omega) _)
        · repeat (first | (with_reducible exact hkk) | refine kset HB.out ?_ _ (by show B ≤ _; dsimp only; omega) _)
      · have hbx := bx_new w 2 2 4 0 2 t l 14 false x 54
        have hk : Keeps NoS w (((w.alloc (.cells #[.int .i64 2, .int .i64 2, .int .i64 4, .int .i64 0, .int .i64 2] 54)).alloc (.cells #[.int .i64 t, .int .i64 l, .int .i64 14, .bool false, .int .i64 x] 37)).alloc (.cells #[.int .i64 0, .int .i64 0, .int .i64 0, .bool false, .int .i64 0] 37)) := (((Keeps.refl NoS w).alloc _).alloc _).alloc _
        have ha := blk_lt hA.hd
        have hv : ∀ g, v.ownBlock = some g → g < w.heap.size := fun g hg => hA.own_lt hg
        have hA2 := hA.keep hk (fun f => f) (fun _ _ f => f)
        obtain ⟨B, hB⟩ : ∃ B, w.heap.size = B := ⟨_, rfl⟩
        rw [hB] at hbx hv ha
        have HB := Lib.hid hB; have HA2 := Lib.hid hA2; have HK := Lib.hid hk; have HV := Lib.hid hv; have HBX := Lib.hid hbx; have HL := Lib.hid hl48
        clear hB hA2 hk hv hbx hl48 hA
        go_enter Try.func46, Try.ntmps46
        go_wp2_with fail
        (try rw [HB.out])
        refine (rmay8_any t l 14 false x _).mono ?_
        rw [HOK.out]
        rintro e w1 ⟨rfl, hk1⟩
        have hb1 := HBX.out.no hk1
        have hm1 := HA2.out.keep hk1 (fun f => f) (fun _ _ f => f)
        obtain ⟨⟨m0, m1, m2, m3, m4⟩, ⟨c0, c1, c2, c3, c4⟩, ⟨r0, r1, r2, r3, r4⟩, ⟨f0, f1, f2, f3, f4⟩, ⟨g0, g1, g2, g3, g4⟩, z1, z2⟩ := hb1.facts
        have HB1 := Lib.hid hb1; have HM1 := Lib.hid hm1; have HK1 := Lib.hid (HK.out.trans hk1)
        clear hb1 hm1
        go_wp2_with (first
          | (go_at_call 28; refine (rlock_lit 2 2 4 0 2 l 3 _ HRD.out _).mono ?_; rintro e w5 ⟨rfl, hk5⟩; clear m0 m1 m2 m3 m4 c0 c1 c2 c3 c4 r0 r1 r2 r3 r4 f0 f1 f2 f3 f4 g0 g1 g2 g3 g4 z1 z2; have hb5 := HB1.out.no hk5; have hm5 := HM1.out.keep hk5 (fun f => f) (fun _ _ f => f); obtain ⟨⟨m0, m1, m2, m3, m4⟩, ⟨c0, c1, c2, c3, c4⟩, ⟨r0, r1, r2, r3, r4⟩, ⟨f0, f1, f2, f3, f4⟩, ⟨g0, g1, g2, g3, g4⟩, z1, z2⟩ := hb5.facts; have HB5 := Lib.hid hb5; have HM5 := Lib.hid hm5; clear hb5 hm5))
        have hm := HM5.out
        have hkk : Keeps (own2m a v) w w5 := (HK1.out.trans hk5).no
        refine bodyPost_ret (v := .agg #[.int .i64 t, .int .i64 l, .int .i64 14, .bool false, .int .i64 x]) (by simp [results, Try.results46, go_sem, *]) rfl ⟨rfl, ?_, ?_⟩
        · repeat (first | (with_reducible exact hm) | refine MemT.set (B := B) ?_ ha HV.out _ (by show B ≤ _; dsimp only; omega) _)
        · repeat (first | (with_reducible exact hkk) | refine kset HB.out ?_ _ (by show B ≤ _; dsimp only; omega) _)
    | true =>
      obtain ⟨M1, s1, x1, hd⟩ := mDrop_hnd M t l (inI s) true x
      rw [show wTake M t l s true x = (M1, ⟨t, l, outI s1, true, x1⟩) by unfold wTake; rw [if_neg hs05, if_neg h10, if_pos ⟨rfl, hs14⟩, hd]]
      have hto := mDrop_to hd (inI_is s)
      have HD := Lib.hid hd
      clear hd hs05 h10
      unfold handV
      dsimp only
      have hs : s = 11 ∨ s = 12 ∨ s = 13 ∨ s = 14 := by omega
      clear hs14
      have hD9 : inI s = inI s := rfl
      clear hD9
      rcases hs with rfl | rfl | rfl | rfl
      · rw [show inI (11 : Int) = 9 from rfl] at HD
        have hbx := bx_new w 2 2 4 0 2 t l 11 true x 54
        have hk : Keeps NoS w (((w.alloc (.cells #[.int .i64 2, .int .i64 2, .int .i64 4, .int .i64 0, .int .i64 2] 54)).alloc (.cells #[.int .i64 t, .int .i64 l, .int .i64 11, .bool true, .int .i64 x] 37)).alloc (.cells #[.int .i64 0, .int .i64 0, .int .i64 0, .bool false, .int .i64 0] 37)) := (((Keeps.refl NoS w).alloc _).alloc _).alloc _
        have ha := blk_lt hA.hd
        have hv : ∀ g, v.ownBlock = some g → g < w.heap.size := fun g hg => hA.own_lt hg
        have hA2 := hA.keep hk (fun f => f) (fun _ _ f => f)
        obtain ⟨B, hB⟩ : ∃ B, w.heap.size = B := ⟨_, rfl⟩
        rw [hB] at hbx hv ha
        have HB := Lib.hid hB; have HA2 := Lib.hid hA2; have HK := Lib.hid hk; have HV := Lib.hid hv; have HBX := Lib.hid hbx; have HL := Lib.hid hl48
        clear hB hA2 hk hv hbx hl48 hA
        go_enter Try.func46, Try.ntmps46
        go_wp2_with fail
        (try rw [HB.out])
        refine (rmay8_any t l 11 true x _).mono ?_
        rw [HOK.out]
        rintro e w1 ⟨rfl, hk1⟩
        have hb1 := HBX.out.no hk1
        have hm1 := HA2.out.keep hk1 (fun f => f) (fun _ _ f => f)
        obtain ⟨⟨m0, m1, m2, m3, m4⟩, ⟨c0, c1, c2, c3, c4⟩, ⟨r0, r1, r2, r3, r4⟩, ⟨f0, f1, f2, f3, f4⟩, ⟨g0, g1, g2, g3, g4⟩, z1, z2⟩ := hb1.facts
        have HB1 := Lib.hid hb1; have HM1 := Lib.hid hm1; have HK1 := Lib.hid (HK.out.trans hk1)
        clear hb1 hm1
        go_upto_region 16 with (first
          | (go_at_call 28; refine (rlock_lit 2 2 4 0 2 l 3 _ HRD.out _).mono ?_; rintro e w5 ⟨rfl, hk5⟩; clear m0 m1 m2 m3 m4 c0 c1 c2 c3 c4 r0 r1 r2 r3 r4 f0 f1 f2 f3 f4 g0 g1 g2 g3 g4 z1 z2; have hb5 := HB1.out.no hk5; have hm5 := HM1.out.keep hk5 (fun f => f) (fun _ _ f => f); obtain ⟨⟨m0, m1, m2, m3, m4⟩, ⟨c0, c1, c2, c3, c4⟩, ⟨r0, r1, r2, r3, r4⟩, ⟨f0, f1, f2, f3, f4⟩, ⟨g0, g1, g2, g3, g4⟩, z1, z2⟩ := hb5.facts; have HB5 := Lib.hid hb5; have HM5 := Lib.hid hm5; clear hb5 hm5))
        have hm := HM5.out
        have hkk : Keeps (own2m a v) w w5 := (HK1.out.trans hk5).no
        have hb6 := (HB5.out.st 9).no ((Keeps.refl NoS _).alloc (.cells #[.int .i64 9, .int .i64 7, .int .i64 6, .int .i64 8] 3))
        have hm6 : RefAt ((w5.setCell ⟨B + 1, 2, none⟩ (.int .i64 9)).alloc (.cells #[.int .i64 9, .int .i64 7, .int .i64 6, .int .i64 8] 3)) a v M := (MemT.set (B := B) hm ha HV.out ⟨B + 1, 2, none⟩ (by show B ≤ _; dsimp only; omega) (.int .i64 9)).keep ((Keeps.refl NoS _).alloc (.cells #[.int .i64 9, .int .i64 7, .int .i64 6, .int .i64 8] 3)) (fun f => f) (fun _ _ f => f)
        have hk6 : Keeps (own2m a v) w ((w5.setCell ⟨B + 1, 2, none⟩ (.int .i64 9)).alloc (.cells #[.int .i64 9, .int .i64 7, .int .i64 6, .int .i64 8] 3)) := (kset HB.out hkk (p := ⟨B + 1, 2, none⟩) (by show B ≤ _; dsimp only; omega) (.int .i64 9)).trans ((Keeps.refl NoS _).alloc (.cells #[.int .i64 9, .int .i64 7, .int .i64 6, .int .i64 8] 3)).no
        go_upto_region 17 with fail
        generalize ((w5.setCell ⟨B + 1, 2, none⟩ (.int .i64 9)).alloc (.cells #[.int .i64 9, .int .i64 7, .int .i64 6, .int .i64 8] 3)) = w6 at *
        clear hm hkk m0 m1 m2 m3 m4 c0 c1 c2 c3 c4 r0 r1 r2 r3 r4 f0 f1 f2 f3 f4 g0 g1 g2 g3 g4 z1 z2
        obtain ⟨⟨m0, m1, m2, m3, m4⟩, ⟨c0, c1, c2, c3, c4⟩, ⟨r0, r1, r2, r3, r4⟩, ⟨f0, f1, f2, f3, f4⟩, ⟨g0, g1, g2, g3, g4⟩, z1, z2⟩ := hb6.facts
        have HB6 := Lib.hid hb6; have HM6 := Lib.hid hm6; have HK6 := Lib.hid hk6
        clear hb6 hm6 hk6
        go_upto_region 18 with (first
          | (go_at_call 33; have hct := rdrop8_yes t l 9 true x a v M _ ht hl HM6.out HL.out; rw [HD.out] at hct; unfold handV at hct; dsimp only at hct; refine hct.mono ?_; clear hct; rintro e w4 ⟨rfl, hm, hk4⟩; have hb4 := HB6.out.own hk4 ha HV.out; clear m0 m1 m2 m3 m4 c0 c1 c2 c3 c4 r0 r1 r2 r3 r4 f0 f1 f2 f3 f4 g0 g1 g2 g3 g4 z1 z2; obtain ⟨⟨m0, m1, m2, m3, m4⟩, ⟨c0, c1, c2, c3, c4⟩, ⟨r0, r1, r2, r3, r4⟩, ⟨f0, f1, f2, f3, f4⟩, ⟨g0, g1, g2, g3, g4⟩, z1, z2⟩ := hb4.facts; have HB4 := Lib.hid hb4; have hkk : Keeps (own2m a v) w w4 := HK6.out.trans hk4; clear hb4))
        have hbN := HB4.out.h5 t l s1 true x1
        have hmN : RefAt (((((w4.setCell ⟨B + 1, 0, none⟩ (.int .i64 t)).setCell ⟨B + 1, 1, none⟩ (.int .i64 l)).setCell ⟨B + 1, 2, none⟩ (.int .i64 s1)).setCell ⟨B + 1, 3, none⟩ (.bool true)).setCell ⟨B + 1, 4, none⟩ (.int .i64 x1)) a v M1 := by
          repeat (first | (with_reducible exact hm) | refine MemT.set (B := B) ?_ ha HV.out _ (by show B ≤ _; dsimp only; omega) _)
        have hkN : Keeps (own2m a v) w (((((w4.setCell ⟨B + 1, 0, none⟩ (.int .i64 t)).setCell ⟨B + 1, 1, none⟩ (.int .i64 l)).setCell ⟨B + 1, 2, none⟩ (.int .i64 s1)).setCell ⟨B + 1, 3, none⟩ (.bool true)).setCell ⟨B + 1, 4, none⟩ (.int .i64 x1)) := by
          repeat (first | (with_reducible exact hkk) | refine kset HB.out ?_ _ (by show B ≤ _; dsimp only; omega) _)
        generalize (((((w4.setCell ⟨B + 1, 0, none⟩ (.int .i64 t)).setCell ⟨B + 1, 1, none⟩ (.int .i64 l)).setCell ⟨B + 1, 2, none⟩ (.int .i64 s1)).setCell ⟨B + 1, 3, none⟩ (.bool true)).setCell ⟨B + 1, 4, none⟩ (.int .i64 x1)) = w7 at *
        clear hm hkk m0 m1 m2 m3 m4 c0 c1 c2 c3 c4 r0 r1 r2 r3 r4 f0 f1 f2 f3 f4 g0 g1 g2 g3 g4 z1 z2
        obtain ⟨⟨m0, m1, m2, m3, m4⟩, ⟨c0, c1, c2, c3, c4⟩, ⟨r0, r1, r2, r3, r4⟩, ⟨f0, f1, f2, f3, f4⟩, ⟨g0, g1, g2, g3, g4⟩, z1, z2⟩ := hbN.facts
        have HB7 := Lib.hid hbN; have HM7 := Lib.hid hmN; have HK7 := Lib.hid hkN
        have hm := hmN; have hkk := hkN
        clear hbN hmN hkN
        rcases hto with rfl | rfl | rfl | rfl
        · go_upto_region 28 with fail
          have hbN := HB7.out.st 9
          have hmN : RefAt (w7.setCell ⟨B + 1, 2, none⟩ (.int .i64 9)) a v M1 := by
            repeat (first | (with_reducible exact hm) | refine MemT.set (B := B) ?_ ha HV.out _ (by show B ≤ _; dsimp only; omega) _)
          have hkN : Keeps (own2m a v) w (w7.setCell ⟨B + 1, 2, none⟩ (.int .i64 9)) := by
            repeat (first | (with_reducible exact hkk) | refine kset HB.out ?_ _ (by show B ≤ _; dsimp only; omega) _)
          generalize (w7.setCell ⟨B + 1, 2, none⟩ (.int .i64 9)) = w8 at *
          clear hm hkk m0 m1 m2 m3 m4 c0 c1 c2 c3 c4 r0 r1 r2 r3 r4 f0 f1 f2 f3 f4 g0 g1 g2 g3 g4 z1 z2
          obtain ⟨⟨m0, m1, m2, m3, m4⟩, ⟨c0, c1, c2, c3, c4⟩, ⟨r0, r1, r2, r3, r4⟩, ⟨f0, f1, f2, f3, f4⟩, ⟨g0, g1, g2, g3, g4⟩, z1, z2⟩ := hbN.facts
          have HB8 := Lib.hid hbN; have HM8 := Lib.hid hmN; have HK8 := Lib.hid hkN
          have hm := hmN; have hkk := hkN
          clear hbN hmN hkN
          go_wp2_with fail
          refine bodyPost_ret (v := .agg #[.int .i64 t, .int .i64 l, .int .i64 9, .bool true, .int .i64 x1]) (by simp [results, Try.results46, go_sem, *]) rfl ⟨rfl, ?_, ?_⟩
          · repeat (first | (with_reducible exact hm) | refine MemT.set (B := B) ?_ ha HV.out _ (by show B ≤ _; dsimp only; omega) _)
          · repeat (first | (with_reducible exact hkk) | refine kset HB.out ?_ _ (by show B ≤ _; dsimp only; omega) _)
        · go_upto_region 28 with fail
          have hbN := HB7.out.st 12
          have hmN : RefAt (w7.setCell ⟨B + 1, 2, none⟩ (.int .i64 12)) a v M1 := by
            repeat (first | (with_reducible exact hm) | refine MemT.set (B := B) ?_ ha HV.out _ (by show B ≤ _; dsimp only; omega) _)
          have hkN : Keeps (own2m a v) w (w7.setCell ⟨B + 1, 2, none⟩ (.int .i64 12)) := by
            repeat (first | (with_reducible exact hkk) | refine kset HB.out ?_ _ (by show B ≤ _; dsimp only; omega) _)
          generalize (w7.setCell ⟨B + 1, 2, none⟩ (.int .i64 12)) = w8 at *
          clear hm hkk m0 m1 m2 m3 m4 c0 c1 c2 c3 c4 r0 r1 r2 r3 r4 f0 f1 f2 f3 f4 g0 g1 g2 g3 g4 z1 z2
          obtain ⟨⟨m0, m1, m2, m3, m4⟩, ⟨c0, c1, c2, c3, c4⟩, ⟨r0, r1, r2, r3, r4⟩, ⟨f0, f1, f2, f3, f4⟩, ⟨g0, g1, g2, g3, g4⟩, z1, z2⟩ := hbN.facts
          have HB8 := Lib.hid hbN; have HM8 := Lib.hid hmN; have HK8 := Lib.hid hkN
          have hm := hmN; have hkk := hkN
          clear hbN hmN hkN
          go_wp2_with fail
          refine bodyPost_ret (v := .agg #[.int .i64 t, .int .i64 l, .int .i64 12, .bool true, .int .i64 x1]) (by simp [results, Try.results46, go_sem, *]) rfl ⟨rfl, ?_, ?_⟩
          · repeat (first | (with_reducible exact hm) | refine MemT.set (B := B) ?_ ha HV.out _ (by show B ≤ _; dsimp only; omega) _)
          · repeat (first | (with_reducible exact hkk) | refine kset HB.out ?_ _ (by show B ≤ _; dsimp only; omega) _)
        · go_upto_region 28 with fail
          have hbN := HB7.out.st 13
          have hmN : RefAt (w7.setCell ⟨B + 1, 2, none⟩ (.int .i64 13)) a v M1 := by
            repeat (first | (with_reducible exact hm) | refine MemT.set (B := B) ?_ ha HV.out _ (by show B ≤ _; dsimp only; omega) _)
          have hkN : Keeps (own2m a v) w (w7.setCell ⟨B + 1, 2, none⟩ (.int .i64 13)) := by
            repeat (first | (with_reducible exact hkk) | refine kset HB.out ?_ _ (by show B ≤ _; dsimp only; omega) _)
          generalize (w7.setCell ⟨B + 1, 2, none⟩ (.int .i64 13)) = w8 at *
          clear hm hkk m0 m1 m2 m3 m4 c0 c1 c2 c3 c4 r0 r1 r2 r3 r4 f0 f1 f2 f3 f4 g0 g1 g2 g3 g4 z1 z2
          obtain ⟨⟨m0, m1, m2, m3, m4⟩, ⟨c0, c1, c2, c3, c4⟩, ⟨r0, r1, r2, r3, r4⟩, ⟨f0, f1, f2, f3, f4⟩, ⟨g0, g1, g2, g3, g4⟩, z1, z2⟩ := hbN.facts
          have HB8 := Lib.hid hbN; have HM8 := Lib.hid hmN; have HK8 := Lib.hid hkN
          have hm := hmN; have hkk := hkN
          clear hbN hmN hkN
          go_wp2_with fail
          refine bodyPost_ret (v := .agg #[.int .i64 t, .int .i64 l, .int .i64 13, .bool true, .int .i64 x1]) (by simp [results, Try.results46, go_sem, *]) rfl ⟨rfl, ?_, ?_⟩
          · repeat (first | (with_reducible exact hm) | refine MemT.set (B := B) ?_ ha HV.out _ (by show B ≤ _; dsimp only; omega) _)
          · repeat (first | (with_reducible exact hkk) | refine kset HB.out ?_ _ (by show B ≤ _; dsimp only; omega) _)
        · go_upto_region 28 with fail
          have hbN := HB7.out.st 14
          have hmN : RefAt (w7.setCell ⟨B + 1, 2, none⟩ (.int .i64 14)) a v M1 := by
            repeat (first | (with_reducible exact hm) | refine MemT.set (B := B) ?_ ha HV.out _ (by show B ≤ _; dsimp only; omega) _)
          have hkN : Keeps (own2m a v) w (w7.setCell ⟨B + 1, 2, none⟩ (.int .i64 14)) := by
            repeat (first | (with_reducible exact hkk) | refine kset HB.out ?_ _ (by show B ≤ _; dsimp only; omega) _)
          generalize (w7.setCell ⟨B + 1, 2, none⟩ (.int .i64 14)) = w8 at *
          clear hm hkk m0 m1 m2 m3 m4 c0 c1 c2 c3 c4 r0 r1 r2 r3 r4 f0 f1 f2 f3 f4 g0 g1 g2 g3 g4 z1 z2
          obtain ⟨⟨m0, m1, m2, m3, m4⟩, ⟨c0, c1, c2, c3, c4⟩, ⟨r0, r1, r2, r3, r4⟩, ⟨f0, f1, f2, f3, f4⟩, ⟨g0, g1, g2, g3, g4⟩, z1, z2⟩ := hbN.facts
          have HB8 := Lib.hid hbN; have HM8 := Lib.hid hmN; have HK8 := Lib.hid hkN
          have hm := hmN; have hkk := hkN
          clear hbN hmN hkN
          go_wp2_with fail
          refine bodyPost_ret (v := .agg #[.int .i64 t, .int .i64 l, .int .i64 14, .bool true, .int .i64 x1]) (by simp [results, Try.results46, go_sem, *]) rfl ⟨rfl, ?_, ?_⟩
          · repeat (first | (with_reducible exact hm) | refine MemT.set (B := B) ?_ ha HV.out _ (by show B ≤ _; dsimp only; omega) _)
          · repeat (first | (with_reducible exact hkk) | refine kset HB.out ?_ _ (by show B ≤ _; dsimp only; omega) _)
      · rw [show inI (12 : Int) = 7 from rfl] at HD
        have hbx := bx_new w 2 2 4 0 2 t l 12 true x 54
        have hk : Keeps NoS w (((w.alloc (.cells #[.int .i64 2, .int .i64 2, .int .i64 4, .int .i64 0, .int .i64 2] 54)).alloc (.cells #[.int .i64 t, .int .i64 l, .int .i64 12, .bool true, .int .i64 x] 37)).alloc (.cells #[.int .i64 0, .int .i64 0, .int .i64 0, .bool false, .int .i64 0] 37)) := (((Keeps.refl NoS w).alloc _).alloc _).alloc _
        have ha := blk_lt hA.hd
        have hv : ∀ g, v.ownBlock = some g → g < w.heap.size := fun g hg => hA.own_lt hg
        have hA2 := hA.keep hk (fun f => f) (fun _ _ f => f)
        obtain ⟨B, hB⟩ : ∃ B, w.heap.size = B := ⟨_, rfl⟩
        rw [hB] at hbx hv ha
        have HB := Lib.hid hB; have HA2 := Lib.hid hA2; have HK := Lib.hid hk; have HV := Lib.hid hv; have HBX := Lib.hid hbx; have HL := Lib.hid hl48
        clear hB hA2 hk hv hbx hl48 hA
        go_enter Try.func46, Try.ntmps46
        go_wp2_with fail
        (try rw [HB.out])
        refine (rmay8_any t l 12 true x _).mono ?_
        rw [HOK.out]
        rintro e w1 ⟨rfl, hk1⟩
        have hb1 := HBX.out.no hk1
        have hm1 := HA2.out.keep hk1 (fun f => f) (fun _ _ f => f)
        obtain ⟨⟨m0, m1, m2, m3, m4⟩, ⟨c0, c1, c2, c3, c4⟩, ⟨r0, r1, r2, r3, r4⟩, ⟨f0, f1, f2, f3, f4⟩, ⟨g0, g1, g2, g3, g4⟩, z1, z2⟩ := hb1.facts
        have HB1 := Lib.hid hb1; have HM1 := Lib.hid hm1; have HK1 := Lib.hid (HK.out.trans hk1)
        clear hb1 hm1
        go_upto_region 16 with (first
          | (go_at_call 28; refine (rlock_lit 2 2 4 0 2 l 3 _ HRD.out _).mono ?_; rintro e w5 ⟨rfl, hk5⟩; clear m0 m1 m2 m3 m4 c0 c1 c2 c3 c4 r0 r1 r2 r3 r4 f0 f1 f2 f3 f4 g0 g1 g2 g3 g4 z1 z2; have hb5 := HB1.out.no hk5; have hm5 := HM1.out.keep hk5 (fun f => f) (fun _ _ f => f); obtain ⟨⟨m0, m1, m2, m3, m4⟩, ⟨c0, c1, c2, c3, c4⟩, ⟨r0, r1, r2, r3, r4⟩, ⟨f0, f1, f2, f3, f4⟩, ⟨g0, g1, g2, g3, g4⟩, z1, z2⟩ := hb5.facts; have HB5 := Lib.hid hb5; have HM5 := Lib.hid hm5; clear hb5 hm5))
        have hm := HM5.out
        have hkk : Keeps (own2m a v) w w5 := (HK1.out.trans hk5).no
        have hb6 := (HB5.out.st 7).no ((Keeps.refl NoS _).alloc (.cells #[.int .i64 9, .int .i64 7, .int .i64 6, .int .i64 8] 3))
        have hm6 : RefAt ((w5.setCell ⟨B + 1, 2, none⟩ (.int .i64 7)).alloc (.cells #[.int .i64 9, .int .i64 7, .int .i64 6, .int .i64 8] 3)) a v M := (MemT.set (B := B) hm ha HV.out ⟨B + 1, 2, none⟩ (by show B ≤ _; dsimp only; omega) (.int .i64 7)).keep ((Keeps.refl NoS _).alloc (.cells #[.int .i64 9, .int .i64 7, .int .i64 6, .int .i64 8] 3)) (fun f => f) (fun _ _ f => f)
        have hk6 : Keeps (own2m a v) w ((w5.setCell ⟨B + 1, 2, none⟩ (.int .i64 7)).alloc (.cells #[.int .i64 9, .int .i64 7, .int .i64 6, .int .i64 8] 3)) := (kset HB.out hkk (p := ⟨B + 1, 2, none⟩) (by show B ≤ _; dsimp only; omega) (.int .i64 7)).trans ((Keeps.refl NoS _).alloc (.cells #[.int .i64 9, .int .i64 7, .int .i64 6, .int .i64 8] 3)).no
        go_upto_region 17 with fail
        generalize ((w5.setCell ⟨B + 1, 2, none⟩ (.int .i64 7)).alloc (.cells #[.int .i64 9, .int .i64 7, .int .i64 6, .int .i64 8] 3)) = w6 at *
        clear hm hkk m0 m1 m2 m3 m4 c0 c1 c2 c3 c4 r0 r1 r2 r3 r4 f0 f1 f2 f3 f4 g0 g1 g2 g3 g4 z1 z2
        obtain ⟨⟨m0, m1, m2, m3, m4⟩, ⟨c0, c1, c2, c3, c4⟩, ⟨r0, r1, r2, r3, r4⟩, ⟨f0, f1, f2, f3, f4⟩, ⟨g0, g1, g2, g3, g4⟩, z1, z2⟩ := hb6.facts
        have HB6 := Lib.hid hb6; have HM6 := Lib.hid hm6; have HK6 := Lib.hid hk6
        clear hb6 hm6 hk6
        go_upto_region 18 with (first
          | (go_at_call 33; have hct := rdrop8_yes t l 7 true x a v M _ ht hl HM6.out HL.out; rw [HD.out] at hct; unfold handV at hct; dsimp only at hct; refine hct.mono ?_; clear hct; rintro e w4 ⟨rfl, hm, hk4⟩; have hb4 := HB6.out.own hk4 ha HV.out; clear m0 m1 m2 m3 m4 c0 c1 c2 c3 c4 r0 r1 r2 r3 r4 f0 f1 f2 f3 f4 g0 g1 g2 g3 g4 z1 z2; obtain ⟨⟨m0, m1, m2, m3, m4⟩, ⟨c0, c1, c2, c3, c4⟩, ⟨r0, r1, r2, r3, r4⟩, ⟨f0, f1, f2, f3, f4⟩, ⟨g0, g1, g2, g3, g4⟩, z1, z2⟩ := hb4.facts; have HB4 := Lib.hid hb4; have hkk : Keeps (own2m a v) w w4 := HK6.out.trans hk4; clear hb4))
        have hbN := HB4.out.h5 t l s1 true x1
        have hmN : RefAt (((((w4.setCell ⟨B + 1, 0, none⟩ (.int .i64 t)).setCell ⟨B + 1, 1, none⟩ (.int .i64 l)).setCell ⟨B + 1, 2, none⟩ (.int .i64 s1)).setCell ⟨B + 1, 3, none⟩ (.bool true)).setCell ⟨B + 1, 4, none⟩ (.int .i64 x1)) a v M1 := by
          repeat (first | (with_reducible exact hm) | refine MemT.set (B := B) ?_ ha HV.out _ (by show B ≤ _; dsimp only; omega) _)
        have hkN : Keeps (own2m a v) w (((((w4.setCell ⟨B + 1, 0, none⟩ (.int .i64 t)).setCell ⟨B + 1, 1, none⟩ (.int .i64 l)).setCell ⟨B + 1, 2, none⟩ (.int .i64 s1)).setCell ⟨B + 1, 3, none⟩ (.bool true)).setCell ⟨B + 1, 4, none⟩ (.int .i64 x1)) := by
          repeat (first | (with_reducible exact hkk) | refine kset HB.out ?_ _ (by show B ≤ _; dsimp only; omega) _)
        generalize (((((w4.setCell ⟨B + 1, 0, none⟩ (.int .i64 t)).setCell ⟨B + 1, 1, none⟩ (.int .i64 l)).setCell ⟨B + 1, 2, none⟩ (.int .i64 s1)).setCell ⟨B + 1, 3, none⟩ (.bool true)).setCell ⟨B + 1, 4, none⟩ (.int .i64 x1)) = w7 at *
        clear hm hkk m0 m1 m2 m3 m4 c0 c1 c2 c3 c4 r0 r1 r2 r3 r4 f0 f1 f2 f3 f4 g0 g1 g2 g3 g4 z1 z2
        obtain ⟨⟨m0, m1, m2, m3, m4⟩, ⟨c0, c1, c2, c3, c4⟩, ⟨r0, r1, r2, r3, r4⟩, ⟨f0, f1, f2, f3, f4⟩, ⟨g0, g1, g2, g3, g4⟩, z1, z2⟩ := hbN.facts
        have HB7 := Lib.hid hbN; have HM7 := Lib.hid hmN; have HK7 := Lib.hid hkN
        have hm := hmN; have hkk := hkN
        clear hbN hmN hkN
        rcases hto with rfl | rfl | rfl | rfl
        · go_upto_region 28 with fail
          have hbN := HB7.out.st 9
          have hmN : RefAt (w7.setCell ⟨B + 1, 2, none⟩ (.int .i64 9)) a v M1 := by
            repeat (first | (with_reducible exact hm) | refine MemT.set (B := B) ?_ ha HV.out _ (by show B ≤ _; dsimp only; omega) _)
          have hkN : Keeps (own2m a v) w (w7.setCell ⟨B + 1, 2, none⟩ (.int .i64 9)) := by
            repeat (first | (with_reducible exact hkk) | refine kset HB.out ?_ _ (by show B ≤ _; dsimp only; omega) _)
          generalize (w7.setCell ⟨B + 1, 2, none⟩ (.int .i64 9)) = w8 at *
          clear hm hkk m0 m1 m2 m3 m4 c0 c1 c2 c3 c4 r0 r1 r2 r3 r4 f0 f1 f2 f3 f4 g0 g1 g2 g3 g4 z1 z2
          obtain ⟨⟨m0, m1, m2, m3, m4⟩, ⟨c0, c1, c2, c3, c4⟩, ⟨r0, r1, r2, r3, r4⟩, ⟨f0, f1, f2, f3, f4⟩, ⟨g0, g1, g2, g3, g4⟩, z1, z2⟩ := hbN.facts
          have HB8 := Lib.hid hbN; have HM8 := Lib.hid hmN; have HK8 := Lib.hid hkN
          have hm := hmN; have hkk := hkN
          clear hbN hmN hkN
          go_wp2_with fail
          refine bodyPost_ret (v := .agg #[.int .i64 t, .int .i64 l, .int .i64 9, .bool true, .int .i64 x1]) (by simp [results, Try.results46, go_sem, *]) rfl ⟨rfl, ?_, ?_⟩
          · repeat (first | (with_reducible exact hm) | refine MemT.set (B := B) ?_ ha HV.out _ (by show B ≤ _; dsimp only; omega) _)
          · repeat (first | (with_reducible exact hkk) | refine kset HB.out ?_ _ (by show B ≤ _; dsimp only; omega) _)
        · go_upto_region 28 with fail
          have hbN := HB7.out.st 12
          have hmN : RefAt (w7.setCell ⟨B + 1, 2, none⟩ (.int .i64 12)) a v M1 := by
            repeat (first | (with_reducible exact hm) | refine MemT.set (B := B) ?_ ha HV.out _ (by show B ≤ _; dsimp only; omega) _)
          have hkN : Keeps (own2m a v) w (w7.setCell ⟨B + 1, 2, none⟩ (.int .i64 12)) := by
            repeat (first | (with_reducible exact hkk) | refine kset HB.out ?_ _ (by show B ≤ _; dsimp only; omega) _)
          generalize (w7.setCell ⟨B + 1, 2, none⟩ (.int .i64 12)) = w8 at *
          clear hm hkk m0 m1 m2 m3 m4 c0 c1 c2 c3 c4 r0 r1 r2 r3 r4 f0 f1 f2 f3 f4 g0 g1 g2 g3 g4 z1 z2
          obtain ⟨⟨m0, m1, m2, m3, m4⟩, ⟨c0, c1, c2, c3, c4⟩, ⟨r0, r1, r2, r3, r4⟩, ⟨f0, f1, f2, f3, f4⟩, ⟨g0, g1, g2, g3, g4⟩, z1, z2⟩ := hbN.facts
          have HB8 := Lib.hid hbN; have HM8 := Lib.hid hmN; have HK8 := Lib.hid hkN
          have hm := hmN; have hkk := hkN
          clear hbN hmN hkN
          go_wp2_with fail
          refine bodyPost_ret (v := .agg #[.int .i64 t, .int .i64 l, .int .i64 12, .bool true, .int .i64 x1]) (by simp [results, Try.results46, go_sem, *]) rfl ⟨rfl, ?_, ?_⟩
          · repeat (first | (with_reducible exact hm) | refine MemT.set (B := B) ?_ ha HV.out _ (by show B ≤ _; dsimp only; omega) _)
          · repeat (first | (with_reducible exact hkk) | refine kset HB.out ?_ _ (by show B ≤ _; dsimp only; omega) _)
        · go_upto_region 28 with fail
          have hbN := HB7.out.st 13
          have hmN : RefAt (w7.setCell ⟨B + 1, 2, none⟩ (.int .i64 13)) a v M1 := by
            repeat (first | (with_reducible exact hm) | refine MemT.set (B := B) ?_ ha HV.out _ (by show B ≤ _; dsimp only; omega) _)
          have hkN : Keeps (own2m a v) w (w7.setCell ⟨B + 1, 2, none⟩ (.int .i64 13)) := by
            repeat (first | (with_reducible exact hkk) | refine kset HB.out ?_ _ (by show B ≤ _; dsimp only; omega) _)
          generalize (w7.setCell ⟨B + 1, 2, none⟩ (.int .i64 13)) = w8 at *
          clear hm hkk m0 m1 m2 m3 m4 c0 c1 c2 c3 c4 r0 r1 r2 r3 r4 f0 f1 f2 f3 f4 g0 g1 g2 g3 g4 z1 z2
          obtain ⟨⟨m0, m1, m2, m3, m4⟩, ⟨c0, c1, c2, c3, c4⟩, ⟨r0, r1, r2, r3, r4⟩, ⟨f0, f1, f2, f3, f4⟩, ⟨g0, g1, g2, g3, g4⟩, z1, z2⟩ := hbN.facts
          have HB8 := Lib.hid hbN; have HM8 := Lib.hid hmN; have HK8 := Lib.hid hkN
          have hm := hmN; have hkk := hkN
          clear hbN hmN hkN
          go_wp2_with fail
          refine bodyPost_ret (v := .agg #[.int .i64 t, .int .i64 l, .int .i64 13, .bool true, .int .i64 x1]) (by simp [results, Try.results46, go_sem, *]) rfl ⟨rfl, ?_, ?_⟩
          · repeat (first | (with_reducible exact hm) | refine MemT.set (B := B) ?_ ha HV.out _ (by show B ≤ _; dsimp only; omega) _)
          · repeat (first | (with_reducible exact hkk) | refine kset HB.out ?_ _ (by show B ≤ _; dsimp only; omega) _)
        · go_upto_region 28 with fail
          have hbN := HB7.out.st 14
          have hmN : RefAt (w7.setCell ⟨B + 1, 2, none⟩ (.int .i64 14)) a v M1 := by
            repeat (first | (with_reducible exact hm) | refine MemT.set (B := B) ?_ ha HV.out _ (by show B ≤ _; dsimp only; omega) _)
          have hkN : Keeps (own2m a v) w (w7.setCell ⟨B + 1, 2, none⟩ (.int .i64 14)) := by
            repeat (first | (with_reducible exact hkk) | refine kset HB.out ?_ _ (by show B ≤ _; dsimp only; omega) _)
          generalize (w7.setCell ⟨B + 1, 2, none⟩ (.int .i64 14)) = w8 at *
          clear hm hkk m0 m1 m2 m3 m4 c0 c1 c2 c3 c4 r0 r1 r2 r3 r4 f0 f1 f2 f3 f4 g0 g1 g2 g3 g4 z1 z2
          obtain ⟨⟨m0, m1, m2, m3, m4⟩, ⟨c0, c1, c2, c3, c4⟩, ⟨r0, r1, r2, r3, r4⟩, ⟨f0, f1, f2, f3, f4⟩, ⟨g0, g1, g2, g3, g4⟩, z1, z2⟩ := hbN.facts
          have HB8 := Lib.hid hbN; have HM8 := Lib.hid hmN; have HK8 := Lib.hid hkN
          have hm := hmN; have hkk := hkN
          clear hbN hmN hkN
          go_wp2_with fail
          refine bodyPost_ret (v := .agg #[.int .i64 t, .int .i64 l, .int .i64 14, .bool true, .int .i64 x1]) (by simp [results, Try.results46, go_sem, *]) rfl ⟨rfl, ?_, ?_⟩
          · repeat (first | (with_reducible exact hm) | refine MemT.set (B := B) ?_ ha HV.out _ (by show B ≤ _; dsimp only; omega) _)
          · repeat (first | (with_reducible exact hkk) | refine kset HB.out ?_ _ (by show B ≤ _; dsimp only; omega) _)
      · rw [show inI (13 : Int) = 6 from rfl] at HD
        have hbx := bx_new w 2 2 4 0 2 t l 13 true x 54
        have hk : Keeps NoS w (((w.alloc (.cells #[.int .i64 2, .int .i64 2, .int .i64 4, .int .i64 0, .int .i64 2] 54)).alloc (.cells #[.int .i64 t, .int .i64 l, .int .i64 13, .bool true, .int .i64 x] 37)).alloc (.cells #[.int .i64 0, .int .i64 0, .int .i64 0, .bool false, .int .i64 0] 37)) := (((Keeps.refl NoS w).alloc _).alloc _).alloc _
        have ha := blk_lt hA.hd
        have hv : ∀ g, v.ownBlock = some g → g < w.heap.size := fun g hg => hA.own_lt hg
        have hA2 := hA.keep hk (fun f => f) (fun _ _ f => f)
        obtain ⟨B, hB⟩ : ∃ B, w.heap.size = B := ⟨_, rfl⟩
        rw [hB] at hbx hv ha
        have HB := Lib.hid hB; have HA2 := Lib.hid hA2; have HK := Lib.hid hk; have HV := Lib.hid hv; have HBX := Lib.hid hbx; have HL := Lib.hid hl48
        clear hB hA2 hk hv hbx hl48 hA
        go_enter Try.func46, Try.ntmps46
        go_wp2_with fail
        (try rw [HB.out])
        refine (rmay8_any t l 13 true x _).mono ?_
        rw [HOK.out]
        rintro e w1 ⟨rfl, hk1⟩
        have hb1 := HBX.out.no hk1
        have hm1 := HA2.out.keep hk1 (fun f => f) (fun _ _ f => f)
        obtain ⟨⟨m0, m1, m2, m3, m4⟩, ⟨c0, c1, c2, c3, c4⟩, ⟨r0, r1, r2, r3, r4⟩, ⟨f0, f1, f2, f3, f4⟩, ⟨g0, g1, g2, g3, g4⟩, z1, z2⟩ := hb1.facts
        have HB1 := Lib.hid hb1; have HM1 := Lib.hid hm1; have HK1 := Lib.hid (HK.out.trans hk1)
        clear hb1 hm1
        go_upto_region 16 with (first
          | (go_at_call 28; refine (rlock_lit 2 2 4 0 2 l 3 _ HRD.out _).mono ?_; rintro e w5 ⟨rfl, hk5⟩; clear m0 m1 m2 m3 m4 c0 c1 c2 c3 c4 r0 r1 r2 r3 r4 f0 f1 f2 f3 f4 g0 g1 g2 g3 g4 z1 z2; have hb5 := HB1.out.no hk5; have hm5 := HM1.out.keep hk5 (fun f => f) (fun _ _ f => f); obtain ⟨⟨m0, m1, m2, m3, m4⟩, ⟨c0, c1, c2, c3, c4⟩, ⟨r0, r1, r2, r3, r4⟩, ⟨f0, f1, f2, f3, f4⟩, ⟨g0, g1, g2, g3, g4⟩, z1, z2⟩ := hb5.facts; have HB5 := Lib.hid hb5; have HM5 := Lib.hid hm5; clear hb5 hm5))
        have hm := HM5.out
        have hkk : Keeps (own2m a v) w w5 := (HK1.out.trans hk5).no
        have hb6 := (HB5.out.st 6).no ((Keeps.refl NoS _).alloc (.cells #[.int .i64 9, .int .i64 7, .int .i64 6, .int .i64 8] 3))
        have hm6 : RefAt ((w5.setCell ⟨B + 1, 2, none⟩ (.int .i64 6)).alloc (.cells #[.int .i64 9, .int .i64 7, .int .i64 6, .int .i64 8] 3)) a v M := (MemT.set (B := B) hm ha HV.out ⟨B + 1, 2, none⟩ (by show B ≤ _; dsimp only; omega) (.int .i64 6)).keep ((Keeps.refl NoS _).alloc (.cells #[.int .i64 9, .int .i64 7, .int .i64 6, .int .i64 8] 3)) (fun f => f) (fun _ _ f => f)
        have hk6 : Keeps (own2m a v) w ((w5.setCell ⟨B + 1, 2, none⟩ (.int .i64 6)).alloc (.cells #[.int .i64 9, .int .i64 7, .int .i64 6, .int .i64 8] 3)) := (kset HB.out hkk (p := ⟨B + 1, 2, none⟩) (by show B ≤ _; dsimp only; omega) (.int .i64 6)).trans ((Keeps.refl NoS _).alloc (.cells #[.int .i64 9, .int .i64 7, .int .i64 6, .int .i64 8] 3)).no
        go_upto_region 17 with fail
        generalize ((w5.setCell ⟨B + 1, 2, none⟩ (.int .i64 6)).alloc (.cells #[.int .i64 9, .int .i64 7, .int .i64 6, .int .i64 8] 3)) = w6 at *
        clear hm hkk m0 m1 m2 m3 m4 c0 c1 c2 c3 c4 r0 r1 r2 r3 r4 f0 f1 f2 f3 f4 g0 g1 g2 g3 g4 z1 z2
        obtain ⟨⟨m0, m1, m2, m3, m4⟩, ⟨c0, c1, c2, c3, c4⟩, ⟨r0, r1, r2, r3, r4⟩, ⟨f0, f1, f2, f3, f4⟩, ⟨g0, g1, g2, g3, g4⟩, z1, z2⟩ := hb6.facts
        have HB6 := Lib.hid hb6; have HM6 := Lib.hid hm6; have HK6 := Lib.hid hk6
        clear hb6 hm6 hk6
        go_upto_region 18 with (first
          | (go_at_call 33; have hct := rdrop8_yes t l 6 true x a v M _ ht hl HM6.out HL.out; rw [HD.out] at hct; unfold handV at hct; dsimp only at hct; refine hct.mono ?_; clear hct; rintro e w4 ⟨rfl, hm, hk4⟩; have hb4 := HB6.out.own hk4 ha HV.out; clear m0 m1 m2 m3 m4 c0 c1 c2 c3 c4 r0 r1 r2 r3 r4 f0 f1 f2 f3 f4 g0 g1 g2 g3 g4 z1 z2; obtain ⟨⟨m0, m1, m2, m3, m4⟩, ⟨c0, c1, c2, c3, c4⟩, ⟨r0, r1, r2, r3, r4⟩, ⟨f0, f1, f2, f3, f4⟩, ⟨g0, g1, g2, g3, g4⟩, z1, z2⟩ := hb4.facts; have HB4 := Lib.hid hb4; have hkk : Keeps (own2m a v) w w4 := HK6.out.trans hk4; clear hb4))
        have hbN := HB4.out.h5 t l s1 true x1
        have hmN : RefAt (((((w4.setCell ⟨B + 1, 0, none⟩ (.int .i64 t)).setCell ⟨B + 1, 1, none⟩ (.int .i64 l)).setCell ⟨B + 1, 2, none⟩ (.int .i64 s1)).setCell ⟨B + 1, 3, none⟩ (.bool true)).setCell ⟨B + 1, 4, none⟩ (.int .i64 x1)) a v M1 := by
          repeat (first | (with_reducible exact hm) | refine MemT.set (B := B) ?_ ha HV.out _ (by show B ≤ _; dsimp only; omega) _)
        have hkN : Keeps (own2m a v) w (((((w4.setCell ⟨B + 1, 0, none⟩ (.int .i64 t)).setCell ⟨B + 1, 1, none⟩ (.int .i64 l)).setCell ⟨B + 1, 2, none⟩ (.int .i64 s1)).setCell ⟨B + 1, 3, none⟩ (.bool true)).setCell ⟨B + 1, 4, none⟩ (.int .i64 x1)) := by
          repeat (first | (with_reducible exact hkk) | refine kset HB.out ?_ _ (by show B ≤ _; dsimp only; omega) _)
        generalize (((((w4.setCell ⟨B + 1, 0, none⟩ (.int .i64 t)).setCell ⟨B + 1, 1, none⟩ (.int .i64 l)).setCell ⟨B + 1, 2, none⟩ (.int .i64 s1)).setCell ⟨B + 1, 3, none⟩ (.bool true)).setCell ⟨B + 1, 4, none⟩ (.int .i64 x1)) = w7 at *
        clear hm hkk m0 m1 m2 m3 m4 c0 c1 c2 c3 c4 r0 r1 r2 r3 r4 f0 f1 f2 f3 f4 g0 g1 g2 g3 g4 z1 z2
        obtain ⟨⟨m0, m1, m2, m3, m4⟩, ⟨c0, c1, c2, c3, c4⟩, ⟨r0, r1, r2, r3, r4⟩, ⟨f0, f1, f2, f3, f4⟩, ⟨g0, g1, g2, g3, g4⟩, z1, z2⟩ := hbN.facts
        have HB7 := Lib.hid hbN; have HM7 := Lib.hid hmN; have HK7 := Lib.hid hkN
        have hm := hmN; have hkk := hkN
        clear hbN hmN hkN
        rcases hto with rfl | rfl | rfl | rfl
        · go_upto_region 28 with fail
          have hbN := HB7.out.st 9
          have hmN : RefAt (w7.setCell ⟨B + 1, 2, none⟩ (.int .i64 9)) a v M1 := by
            repeat (first | (with_reducible exact hm) | refine MemT.set (B := B) ?_ ha HV.out _ (by show B ≤ _; dsimp only; omega) _)
          have hkN : Keeps (own2m a v) w (w7.setCell ⟨B + 1, 2, none⟩ (.int .i64 9)) := by
            repeat (first | (with_reducible exact hkk) | refine kset HB.out ?_ _ (by show B ≤ _; dsimp only; omega) _)
          generalize (w7.setCell ⟨B + 1, 2, none⟩ (.int .i64 9)) = w8 at *
          clear hm hkk m0 m1 m2 m3 m4 c0 c1 c2 c3 c4 r0 r1 r2 r3 r4 f0 f1 f2 f3 f4 g0 g1 g2 g3 g4 z1 z2
          obtain ⟨⟨m0, m1, m2, m3, m4⟩, ⟨c0, c1, c2, c3, c4⟩, ⟨r0, r1, r2, r3, r4⟩, ⟨f0, f1, f2, f3, f4⟩, ⟨g0, g1, g2, g3, g4⟩, z1, z2⟩ := hbN.facts
          have HB8 := Lib.hid hbN; have HM8 := Lib.hid hmN; have HK8 := Lib.hid hkN
          have hm := hmN; have hkk := hkN
          clear hbN hmN hkN
          go_wp2_with fail
          refine bodyPost_ret (v := .agg #[.int .i64 t, .int .i64 l, .int .i64 9, .bool true, .int .i64 x1]) (by simp [results, Try.results46, go_sem, *]) rfl ⟨rfl, ?_, ?_⟩
          · repeat (first | (with_reducible exact hm) | refine MemT.set (B := B) ?_ ha HV.out _ (by show B ≤ _; dsimp only; omega) _)
          · repeat (first | (with_reducible exact hkk) | refine kset HB.out ?_ _ (by show B ≤ _; dsimp only; omega) _)
        · go_upto_region 28 with fail
          have hbN := HB7.out.st 12
          have hmN : RefAt (w7.setCell ⟨B + 1, 2, none⟩ (.int .i64 12)) a v M1 := by
            repeat (first | (with_reducible exact hm) | refine MemT.set (B := B) ?_ ha HV.out _ (by show B ≤ _; dsimp only; omega) _)
          have hkN : Keeps (own2m a v) w (w7.setCell ⟨B + 1, 2, none⟩ (.int .i64 12)) := by
            repeat (first | (with_reducible exact hkk) | refine kset HB.out ?_ _ (by show B ≤ _; dsimp only; omega) _)
          generalize (w7.setCell ⟨B + 1, 2, none⟩ (.int .i64 12)) = w8 at *
          clear hm hkk m0 m1 m2 m3 m4 c0 c1 c2 c3 c4 r0 r1 r2 r3 r4 f0 f1 f2 f3 f4 g0 g1 g2 g3 g4 z1 z2
          obtain ⟨⟨m0, m1, m2, m3, m4⟩, ⟨c0, c1, c2, c3, c4⟩, ⟨r0, r1, r2, r3, r4⟩, ⟨f0, f1, f2, f3, f4⟩, ⟨g0, g1, g2, g3, g4⟩, z1, z2⟩ := hbN.facts
          have HB8 := Lib.hid hbN; have HM8 := Lib.hid hmN; have HK8 := Lib.hid hkN
          have hm := hmN; have hkk := hkN
          clear hbN hmN hkN
          go_wp2_with fail
          refine bodyPost_ret (v := .agg #[.int .i64 t, .int .i64 l, .int .i64 12, .bool true, .int .i64 x1]) (by simp [results, Try.results46, go_sem, *]) rfl ⟨rfl, ?_, ?_⟩
          · repeat (first | (with_reducible exact hm) | refine MemT.set (B := B) ?_ ha HV.out _ (by show B ≤ _; dsimp only; omega) _)
          · repeat (first | (with_reducible exact hkk) | refine kset HB.out ?_ _ (by show B ≤ _; dsimp only; omega) _)
        · go_upto_region 28 with fail
          have hbN := HB7.out.st 13
          have hmN : RefAt (w7.setCell ⟨B + 1, 2, none⟩ (.int .i64 13)) a v M1 := by
            repeat (first | (with_reducible exact hm) | refine MemT.set (B := B) ?_ ha HV.out _ (by show B ≤ _; dsimp only; omega) _)
          have hkN : Keeps (own2m a v) w (w7.setCell ⟨B + 1, 2, none⟩ (.int .i64 13)) := by
            repeat (first | (with_reducible exact hkk) | refine kset HB.out ?_ _ (by show B ≤ _; dsimp only; omega) _)
          generalize (w7.setCell ⟨B + 1, 2, none⟩ (.int .i64 13)) = w8 at *
          clear hm hkk m0 m1 m2 m3 m4 c0 c1 c2 c3 c4 r0 r1 r2 r3 r4 f0 f1 f2 f3 f4 g0 g1 g2 g3 g4 z1 z2
          obtain ⟨⟨m0, m1, m2, m3, m4⟩, ⟨c0, c1, c2, c3, c4⟩, ⟨r0, r1, r2, r3, r4⟩, ⟨f0, f1, f2, f3, f4⟩, ⟨g0, g1, g2, g3, g4⟩, z1, z2⟩ := hbN.facts
          have HB8 := Lib.hid hbN; have HM8 := Lib.hid hmN; have HK8 := Lib.hid hkN
          have hm := hmN; have hkk := hkN
          clear hbN hmN hkN
          go_wp2_with fail
          refine bodyPost_ret (v := .agg #[.int .i64 t, .int .i64 l, .int .i64 13, .bool true, .int .i64 x1]) (by simp [results, Try.results46, go_sem, *]) rfl ⟨rfl, ?_, ?_⟩
          · repeat (first | (with_reducible exact hm) | refine MemT.set (B := B) ?_ ha HV.out _ (by show B ≤ _; dsimp only; omega) _)
          · repeat (first | (with_reducible exact hkk) | refine kset HB.out ?_ _ (by show B ≤ _; dsimp only; omega) _)
        · go_upto_region 28 with fail
          have hbN := HB7.out.st 14
          have hmN : RefAt (w7.setCell ⟨B + 1, 2, none⟩ (.int .i64 14)) a v M1 := by
            repeat (first | (with_reducible exact hm) | refine MemT.set (B := B) ?_ ha HV.out _ (by show B ≤ _; dsimp only; omega) _)
          have hkN : Keeps (own2m a v) w (w7.setCell ⟨B + 1, 2, none⟩ (.int .i64 14)) := by
            repeat (first | (with_reducible exact hkk) | refine kset HB.out ?_ _ (by show B ≤ _; dsimp only; omega) _)
          generalize (w7.setCell ⟨B + 1, 2, none⟩ (.int .i64 14)) = w8 at *
          clear hm hkk m0 m1 m2 m3 m4 c0 c1 c2 c3 c4 r0 r1 r2 r3 r4 f0 f1 f2 f3 f4 g0 g1 g2 g3 g4 z1 z2
          obtain ⟨⟨m0, m1, m2, m3, m4⟩, ⟨c0, c1, c2, c3, c4⟩, ⟨r0, r1, r2, r3, r4⟩, ⟨f0, f1, f2, f3, f4⟩, ⟨g0, g1, g2, g3, g4⟩, z1, z2⟩ := hbN.facts
          have HB8 := Lib.hid hbN; have HM8 := Lib.hid hmN; have HK8 := Lib.hid hkN
          have hm := hmN; have hkk := hkN
          clear hbN hmN hkN
          go_wp2_with fail
          refine bodyPost_ret (v := .agg #[.int .i64 t, .int .i64 l, .int .i64 14, .bool true, .int .i64 x1]) (by simp [results, Try.results46, go_sem, *]) rfl ⟨rfl, ?_, ?_⟩
          · repeat (first | (with_reducible exact hm) | refine MemT.set (B := B) ?_ ha HV.out _ (by show B ≤ _; dsimp only; omega) _)
          · repeat (first | (with_reducible exact hkk) | refine kset HB.out ?_ _ (by show B ≤ _; dsimp only; omega) _)
      · rw [show inI (14 : Int) = 8 from rfl] at HD
        have hbx := bx_new w 2 2 4 0 2 t l 14 true x 54
        have hk : Keeps NoS w (((w.alloc (.cells #[.int .i64 2, .int .i64 2, .int .i64 4, .int .i64 0, .int .i64 2] 54)).alloc (.cells #[.int .i64 t, .int .i64 l, .int .i64 14, .bool true, .int .i64 x] 37)).alloc (.cells #[.int .i64 0, .int .i64 0, .int .i64 0, .bool false, .int .i64 0] 37)) := (((Keeps.refl NoS w).alloc _).alloc _).alloc _
        have ha := blk_lt hA.hd
        have hv : ∀ g, v.ownBlock = some g → g < w.heap.size := fun g hg => hA.own_lt hg
        have hA2 := hA.keep hk (fun f => f) (fun _ _ f => f)
        obtain ⟨B, hB⟩ : ∃ B, w.heap.size = B := ⟨_, rfl⟩
        rw [hB] at hbx hv ha
        have HB := Lib.hid hB; have HA2 := Lib.hid hA2; have HK := Lib.hid hk; have HV := Lib.hid hv; have HBX := Lib.hid hbx; have HL := Lib.hid hl48
        clear hB hA2 hk hv hbx hl48 hA
        go_enter Try.func46, Try.ntmps46
        go_wp2_with fail
        (try rw [HB.out])
        refine (rmay8_any t l 14 true x _).mono ?_
        rw [HOK.out]
        rintro e w1 ⟨rfl, hk1⟩
        have hb1 := HBX.out.no hk1
        have hm1 := HA2.out.keep hk1 (fun f => f) (fun _ _ f => f)
        obtain ⟨⟨m0, m1, m2, m3, m4⟩, ⟨c0, c1, c2, c3, c4⟩, ⟨r0, r1, r2, r3, r4⟩, ⟨f0, f1, f2, f3, f4⟩, ⟨g0, g1, g2, g3, g4⟩, z1, z2⟩ := hb1.facts
        have HB1 := Lib.hid hb1; have HM1 := Lib.hid hm1; have HK1 := Lib.hid (HK.out.trans hk1)
        clear hb1 hm1
        go_upto_region 16 with (first
          | (go_at_call 28; refine (rlock_lit 2 2 4 0 2 l 3 _ HRD.out _).mono ?_; rintro e w5 ⟨rfl, hk5⟩; clear m0 m1 m2 m3 m4 c0 c1 c2 c3 c4 r0 r1 r2 r3 r4 f0 f1 f2 f3 f4 g0 g1 g2 g3 g4 z1 z2; have hb5 := HB1.out.no hk5; have hm5 := HM1.out.keep hk5 (fun f => f) (fun _ _ f => f); obtain ⟨⟨m0, m1, m2, m3, m4⟩, ⟨c0, c1, c2, c3, c4⟩, ⟨r0, r1, r2, r3, r4⟩, ⟨f0, f1, f2, f3, f4⟩, ⟨g0, g1, g2, g3, g4⟩, z1, z2⟩ := hb5.facts; have HB5 := Lib.hid hb5; have HM5 := Lib.hid hm5; clear hb5 hm5))
        have hm := HM5.out
        have hkk : Keeps (own2m a v) w w5 := (HK1.out.trans hk5).no
        have hb6 := (HB5.out.st 8).no ((Keeps.refl NoS _).alloc (.cells #[.int .i64 9, .int .i64 7, .int .i64 6, .int .i64 8] 3))
        have hm6 : RefAt ((w5.setCell ⟨B + 1, 2, none⟩ (.int .i64 8)).alloc (.cells #[.int .i64 9, .int .i64 7, .int .i64 6, .int .i64 8] 3)) a v M := (MemT.set (B := B) hm ha HV.out ⟨B + 1, 2, none⟩ (by show B ≤ _; dsimp only; omega) (.int .i64 8)).keep ((Keeps.refl NoS _).alloc (.cells #[.int .i64 9, .int .i64 7, .int .i64 6, .int .i64 8] 3)) (fun f => f) (fun _ _ f => f)
        have hk6 : Keeps (own2m a v) w ((w5.setCell ⟨B + 1, 2, none⟩ (.int .i64 8)).alloc (.cells #[.int .i64 9, .int .i64 7, .int .i64 6, .int .i64 8] 3)) := (kset HB.out hkk (p := ⟨B + 1, 2, none⟩) (by show B ≤ _; dsimp only; omega) (.int .i64 8)).trans ((Keeps.refl NoS _).alloc (.cells #[.int .i64 9, .int .i64 7, .int .i64 6, .int .i64 8] 3)).no
        go_upto_region 17 with fail
        generalize ((w5.setCell ⟨B + 1, 2, none⟩ (.int .i64 8)).alloc (.cells #[.int .i64 9, .int .i64 7, .int .i64 6, .int .i64 8] 3)) = w6 at *
        clear hm hkk m0 m1 m2 m3 m4 c0 c1 c2 c3 c4 r0 r1 r2 r3 r4 f0 f1 f2 f3 f4 g0 g1 g2 g3 g4 z1 z2
        obtain ⟨⟨m0, m1, m2, m3, m4⟩, ⟨c0, c1, c2, c3, c4⟩, ⟨r0, r1, r2, r3, r4⟩, ⟨f0, f1, f2, f3, f4⟩, ⟨g0, g1, g2, g3, g4⟩, z1, z2⟩ := hb6.facts
        have HB6 := Lib.hid hb6; have HM6 := Lib.hid hm6; have HK6 := Lib.hid hk6
        clear hb6 hm6 hk6
        go_upto_region 18 with (first
          | (go_at_call 33; have hct := rdrop8_yes t l 8 true x a v M _ ht hl HM6.out HL.out; rw [HD.out] at hct; unfold handV at hct; dsimp only at hct; refine hct.mono ?_; clear hct; rintro e w4 ⟨rfl, hm, hk4⟩; have hb4 := HB6.out.own hk4 ha HV.out; clear m0 m1 m2 m3 m4 c0 c1 c2 c3 c4 r0 r1 r2 r3 r4 f0 f1 f2 f3 f4 g0 g1 g2 g3 g4 z1 z2; obtain ⟨⟨m0, m1, m2, m3, m4⟩, ⟨c0, c1, c2, c3, c4⟩, ⟨r0, r1, r2, r3, r4⟩, ⟨f0, f1, f2, f3, f4⟩, ⟨g0, g1, g2, g3, g4⟩, z1, z2⟩ := hb4.facts; have HB4 := Lib.hid hb4; have hkk : Keeps (own2m a v) w w4 := HK6.out.trans hk4; clear hb4))
        have hbN := HB4.out.h5 t l s1 true x1
        have hmN : RefAt (((((w4.setCell ⟨B + 1, 0, none⟩ (.int .i64 t)).setCell ⟨B + 1, 1, none⟩ (.int .i64 l)).setCell ⟨B + 1, 2, none⟩ (.int .i64 s1)).setCell ⟨B + 1, 3, none⟩ (.bool true)).setCell ⟨B + 1, 4, none⟩ (.int .i64 x1)) a v M1 := by
          repeat (first | (with_reducible exact hm) | refine MemT.set (B := B) ?_ ha HV.out _ (by show B ≤ _; dsimp only; omega) _)
        have hkN : Keeps (own2m a v) w (((((w4.setCell ⟨B + 1, 0, none⟩ (.int .i64 t)).setCell ⟨B + 1, 1, none⟩ (.int .i64 l)).setCell ⟨B + 1, 2, none⟩ (.int .i64 s1)).setCell ⟨B + 1, 3, none⟩ (.bool true)).setCell ⟨B + 1, 4, none⟩ (.int .i64 x1)) := by
          repeat (first | (with_reducible exact hkk) | refine kset HB.out ?_ _ (by show B ≤ _; dsimp only; omega) _)
        generalize (((((w4.setCell ⟨B + 1, 0, none⟩ (.int .i64 t)).setCell ⟨B + 1, 1, none⟩ (.int .i64 l)).setCell ⟨B + 1, 2, none⟩ (.int .i64 s1)).setCell ⟨B + 1, 3, none⟩ (.bool true)).setCell ⟨B + 1, 4, none⟩ (.int .i64 x1)) = w7 at *
        clear hm hkk m0 m1 m2 m3 m4 c0 c1 c2 c3 c4 r0 r1 r2 r3 r4 f0 f1 f2 f3 f4 g0 g1 g2 g3 g4 z1 z2
        obtain ⟨⟨m0, m1, m2, m3, m4⟩, ⟨c0, c1, c2, c3, c4⟩, ⟨r0, r1, r2, r3, r4⟩, ⟨f0, f1, f2, f3, f4⟩, ⟨g0, g1, g2, g3, g4⟩, z1, z2⟩ := hbN.facts
        have HB7 := Lib.hid hbN; have HM7 := Lib.hid hmN; have HK7 := Lib.hid hkN
        have hm := hmN; have hkk := hkN
        clear hbN hmN hkN
        rcases hto with rfl | rfl | rfl | rfl
        · go_upto_region 28 with fail
          have hbN := HB7.out.st 9
          have hmN : RefAt (w7.setCell ⟨B + 1, 2, none⟩ (.int .i64 9)) a v M1 := by
            repeat (first | (with_reducible exact hm) | refine MemT.set (B := B) ?_ ha HV.out _ (by show B ≤ _; dsimp only; omega) _)
          have hkN : Keeps (own2m a v) w (w7.setCell ⟨B + 1, 2, none⟩ (.int .i64 9)) := by
            repeat (first | (with_reducible exact hkk) | refine kset HB.out ?_ _ (by show B ≤ _; dsimp only; omega) _)
          generalize (w7.setCell ⟨B + 1, 2, none⟩ (.int .i64 9)) = w8 at *
          clear hm hkk m0 m1 m2 m3 m4 c0 c1 c2 c3 c4 r0 r1 r2 r3 r4 f0 f1 f2 f3 f4 g0 g1 g2 g3 g4 z1 z2
          obtain ⟨⟨m0, m1, m2, m3, m4⟩, ⟨c0, c1, c2, c3, c4⟩, ⟨r0, r1, r2, r3, r4⟩, ⟨f0, f1, f2, f3, f4⟩, ⟨g0, g1, g2, g3, g4⟩, z1, z2⟩ := hbN.facts
          have HB8 := Lib.hid hbN; have HM8 := Lib.hid hmN; have HK8 := Lib.hid hkN
          have hm := hmN; have hkk := hkN
          clear hbN hmN hkN
          go_wp2_with fail
          refine bodyPost_ret (v := .agg #[.int .i64 t, .int .i64 l, .int .i64 9, .bool true, .int .i64 x1]) (by simp [results, Try.results46, go_sem, *]) rfl ⟨rfl, ?_, ?_⟩
          · repeat (first | (with_reducible exact hm) | refine MemT.set (B := B) ?_ ha HV.out _ (by show B ≤ _; dsimp only; omega) _)
          · repeat (first | (with_reducible exact hkk) | refine kset HB.out ?_ _ (by show B ≤ _; dsimp only; omega) _)
        · go_upto_region 28 with fail
          have hbN := HB7.out.st 12
          have hmN : RefAt (w7.setCell ⟨B + 1, 2, none⟩ (.int .i64 12)) a v M1 := by
            repeat (first | (with_reducible exact hm) | refine MemT.set (B := B) ?_ ha HV.out _ (by show B ≤ _; dsimp only; omega) _)
          have hkN : Keeps (own2m a v) w (w7.setCell ⟨B + 1, 2, none⟩ (.int .i64 12)) := by
            repeat (first | (with_reducible exact hkk) | refine kset HB.out ?_ _ (by show B ≤ _; dsimp only; omega) _)
          generalize (w7.setCell ⟨B + 1, 2, none⟩ (.int .i64 12)) = w8 at *
          clear hm hkk m0 m1 m2 m3 m4 c0 c1 c2 c3 c4 r0 r1 r2 r3 r4 f0 f1 f2 f3 f4 g0 g1 g2 g3 g4 z1 z2
          obtain ⟨⟨m0, m1, m2, m3, m4⟩, ⟨c0, c1, c2, c3, c4⟩, ⟨r0, r1, r2, r3, r4⟩, ⟨f0, f1, f2, f3, f4⟩, ⟨g0, g1, g2, g3, g4⟩, z1, z2⟩ := hbN.facts
          have HB8 := Lib.hid hbN; have HM8 := Lib.hid hmN; have HK8 := Lib.hid hkN
          have hm := hmN; have hkk := hkN
          clear hbN hmN hkN
          go_wp2_with fail
          refine bodyPost_ret (v := .agg #[.int .i64 t, .int .i64 l, .int .i64 12, .bool true, .int .i64 x1]) (by simp [results, Try.results46, go_sem, *]) rfl ⟨rfl, ?_, ?_⟩
          · repeat (first | (with_reducible exact hm) | refine MemT.set (B := B) ?_ ha HV.out _ (by show B ≤ _; dsimp only; omega) _)
          · repeat (first | (with_reducible exact hkk) | refine kset HB.out ?_ _ (by show B ≤ _; dsimp only; omega) _)
        · go_upto_region 28 with fail
          have hbN := HB7.out.st 13
          have hmN : RefAt (w7.setCell ⟨B + 1, 2, none⟩ (.int .i64 13)) a v M1 := by
            repeat (first | (with_reducible exact hm) | refine MemT.set (B := B) ?_ ha HV.out _ (by show B ≤ _; dsimp only; omega) _)
          have hkN : Keeps (own2m a v) w (w7.setCell ⟨B + 1, 2, none⟩ (.int .i64 13)) := by
            repeat (first | (with_reducible exact hkk) | refine kset HB.out ?_ _ (by show B ≤ _; dsimp only; omega) _)
          generalize (w7.setCell ⟨B + 1, 2, none⟩ (.int .i64 13)) = w8 at *
          clear hm hkk m0 m1 m2 m3 m4 c0 c1 c2 c3 c4 r0 r1 r2 r3 r4 f0 f1 f2 f3 f4 g0 g1 g2 g3 g4 z1 z2
          obtain ⟨⟨m0, m1, m2, m3, m4⟩, ⟨c0, c1, c2, c3, c4⟩, ⟨r0, r1, r2, r3, r4⟩, ⟨f0, f1, f2, f3, f4⟩, ⟨g0, g1, g2, g3, g4⟩, z1, z2⟩ := hbN.facts
          have HB8 := Lib.hid hbN; have HM8 := Lib.hid hmN; have HK8 := Lib.hid hkN
          have hm := hmN; have hkk := hkN
          clear hbN hmN hkN
          go_wp2_with fail
          refine bodyPost_ret (v := .agg #[.int .i64 t, .int .i64 l, .int .i64 13, .bool true, .int .i64 x1]) (by simp [results, Try.results46, go_sem, *]) rfl ⟨rfl, ?_, ?_⟩
          · repeat (first | (with_reducible exact hm) | refine MemT.set (B := B) ?_ ha HV.out _ (by show B ≤ _; dsimp only; omega) _)
          · repeat (first | (with_reducible exact hkk) | refine kset HB.out ?_ _ (by show B ≤ _; dsimp only; omega) _)
        · go_upto_region 28 with fail
          have hbN := HB7.out.st 14
          have hmN : RefAt (w7.setCell ⟨B + 1, 2, none⟩ (.int .i64 14)) a v M1 := by
            repeat (first | (with_reducible exact hm) | refine MemT.set (B := B) ?_ ha HV.out _ (by show B ≤ _; dsimp only; omega) _)
          have hkN : Keeps (own2m a v) w (w7.setCell ⟨B + 1, 2, none⟩ (.int .i64 14)) := by
            repeat (first | (with_reducible exact hkk) | refine kset HB.out ?_ _ (by show B ≤ _; dsimp only; omega) _)
          generalize (w7.setCell ⟨B + 1, 2, none⟩ (.int .i64 14)) = w8 at *
          clear hm hkk m0 m1 m2 m3 m4 c0 c1 c2 c3 c4 r0 r1 r2 r3 r4 f0 f1 f2 f3 f4 g0 g1 g2 g3 g4 z1 z2
          obtain ⟨⟨m0, m1, m2, m3, m4⟩, ⟨c0, c1, c2, c3, c4⟩, ⟨r0, r1, r2, r3, r4⟩, ⟨f0, f1, f2, f3, f4⟩, ⟨g0, g1, g2, g3, g4⟩, z1, z2⟩ := hbN.facts
          have HB8 := Lib.hid hbN; have HM8 := Lib.hid hmN; have HK8 := Lib.hid hkN
          have hm := hmN; have hkk := hkN
          clear hbN hmN hkN
          go_wp2_with fail
          refine bodyPost_ret (v := .agg #[.int .i64 t, .int .i64 l, .int .i64 14, .bool true, .int .i64 x1]) (by simp [results, Try.results46, go_sem, *]) rfl ⟨rfl, ?_, ?_⟩
          · repeat (first | (with_reducible exact hm) | refine MemT.set (B := B) ?_ ha HV.out _ (by show B ≤ _; dsimp only; omega) _)
          · repeat (first | (with_reducible exact hkk) | refine kset HB.out ?_ _ (by show B ≤ _; dsimp only; omega) _)
  rw [show wTake M t l s r x = (M, ⟨t, l, s, r, x⟩) by unfold wTake; rw [if_neg hs05, if_neg h10, if_neg (fun e => hs14 e.2)]]
  unfold handV
  dsimp only
  have e10 : (s == 10) = false := by simp; omega
  have hs3 : s < 0 ∨ (6 ≤ s ∧ s ≤ 9) ∨ 15 ≤ s := by omega
  clear hs05 h10 hs14
  rcases hs3 with h | h | h
  · have g0 : decide ((0 : Int) ≤ s) = false := decide_eq_false (by omega)
    have g11 : decide ((11 : Int) ≤ s) = false := decide_eq_false (by omega)
    clear h
    have hbx := bx_new w 2 2 4 0 2 t l s r x 54
    have hk : Keeps NoS w (((w.alloc (.cells #[.int .i64 2, .int .i64 2, .int .i64 4, .int .i64 0, .int .i64 2] 54)).alloc (.cells #[.int .i64 t, .int .i64 l, .int .i64 s, .bool r, .int .i64 x] 37)).alloc (.cells #[.int .i64 0, .int .i64 0, .int .i64 0, .bool false, .int .i64 0] 37)) := (((Keeps.refl NoS w).alloc _).alloc _).alloc _
    have ha := blk_lt hA.hd
    have hv : ∀ g, v.ownBlock = some g → g < w.heap.size := fun g hg => hA.own_lt hg
    have hA2 := hA.keep hk (fun f => f) (fun _ _ f => f)
    obtain ⟨B, hB⟩ : ∃ B, w.heap.size = B := ⟨_, rfl⟩
    rw [hB] at hbx hv ha
    have HB := Lib.hid hB; have HA2 := Lib.hid hA2; have HK := Lib.hid hk; have HV := Lib.hid hv; have HBX := Lib.hid hbx; have HL := Lib.hid hl48
    clear hB hA2 hk hv hbx hl48 hA
    go_enter Try.func46, Try.ntmps46
    go_wp2_with fail
    (try rw [HB.out])
    refine (rmay8_any t l s r x _).mono ?_
    rw [HOK.out]
    rintro e w1 ⟨rfl, hk1⟩
    have hb1 := HBX.out.no hk1
    have hm1 := HA2.out.keep hk1 (fun f => f) (fun _ _ f => f)
    obtain ⟨⟨m0, m1, m2, m3, m4⟩, ⟨c0, c1, c2, c3, c4⟩, ⟨r0, r1, r2, r3, r4⟩, ⟨f0, f1, f2, f3, f4⟩, ⟨g0, g1, g2, g3, g4⟩, z1, z2⟩ := hb1.facts
    have HB1 := Lib.hid hb1; have HM1 := Lib.hid hm1; have HK1 := Lib.hid (HK.out.trans hk1)
    clear hb1 hm1
    go_wp2_with (first
      | (go_at_call 28; refine (rlock_lit 2 2 4 0 2 l 3 _ HRD.out _).mono ?_; rintro e w5 ⟨rfl, hk5⟩; clear m0 m1 m2 m3 m4 c0 c1 c2 c3 c4 r0 r1 r2 r3 r4 f0 f1 f2 f3 f4 g0 g1 g2 g3 g4 z1 z2; have hb5 := HB1.out.no hk5; have hm5 := HM1.out.keep hk5 (fun f => f) (fun _ _ f => f); obtain ⟨⟨m0, m1, m2, m3, m4⟩, ⟨c0, c1, c2, c3, c4⟩, ⟨r0, r1, r2, r3, r4⟩, ⟨f0, f1, f2, f3, f4⟩, ⟨g0, g1, g2, g3, g4⟩, z1, z2⟩ := hb5.facts; have HB5 := Lib.hid hb5; have HM5 := Lib.hid hm5; clear hb5 hm5))
    have hm := HM5.out
    have hkk : Keeps (own2m a v) w w5 := (HK1.out.trans hk5).no
    refine bodyPost_ret (v := .agg #[.int .i64 t, .int .i64 l, .int .i64 s, .bool r, .int .i64 x]) (by simp [results, Try.results46, go_sem, *]) rfl ⟨rfl, ?_, ?_⟩
    · repeat (first | (with_reducible exact hm) | refine MemT.set (B := B) ?_ ha HV.out _ (by show B ≤ _; dsimp only; omega) _)
    · repeat (first | (with_reducible exact hkk) | refine kset HB.out ?_ _ (by show B ≤ _; dsimp only; omega) _)
  · have g0 : decide ((0 : Int) ≤ s) = true := decide_eq_true (by omega)
    have g5 : decide (s ≤ 5) = false := decide_eq_false (by omega)
    have g11 : decide ((11 : Int) ≤ s) = false := decide_eq_false (by omega)
    clear h
    have hbx := bx_new w 2 2 4 0 2 t l s r x 54
    have hk : Keeps NoS w (((w.alloc (.cells #[.int .i64 2, .int .i64 2, .int .i64 4, .int .i64 0, .int .i64 2] 54)).alloc (.cells #[.int .i64 t, .int .i64 l, .int .i64 s, .bool r, .int .i64 x] 37)).alloc (.cells #[.int .i64 0, .int .i64 0, .int .i64 0, .bool false, .int .i64 0] 37)) := (((Keeps.refl NoS w).alloc _).alloc _).alloc _
    have ha := blk_lt hA.hd
    have hv : ∀ g, v.ownBlock = some g → g < w.heap.size := fun g hg => hA.own_lt hg
    have hA2 := hA.keep hk (fun f => f) (fun _ _ f => f)
    obtain ⟨B, hB⟩ : ∃ B, w.heap.size = B := ⟨_, rfl⟩
    rw [hB] at hbx hv ha
    have HB := Lib.hid hB; have HA2 := Lib.hid hA2; have HK := Lib.hid hk; have HV := Lib.hid hv; have HBX := Lib.hid hbx; have HL := Lib.hid hl48
    clear hB hA2 hk hv hbx hl48 hA
    go_enter Try.func46, Try.ntmps46
    go_wp2_with fail
    (try rw [HB.out])
    refine (rmay8_any t l s r x _).mono ?_
    rw [HOK.out]
    rintro e w1 ⟨rfl, hk1⟩
    have hb1 := HBX.out.no hk1
    have hm1 := HA2.out.keep hk1 (fun f => f) (fun _ _ f => f)
    obtain ⟨⟨m0, m1, m2, m3, m4⟩, ⟨c0, c1, c2, c3, c4⟩, ⟨r0, r1, r2, r3, r4⟩, ⟨f0, f1, f2, f3, f4⟩, ⟨g0, g1, g2, g3, g4⟩, z1, z2⟩ := hb1.facts
    have HB1 := Lib.hid hb1; have HM1 := Lib.hid hm1; have HK1 := Lib.hid (HK.out.trans hk1)
    clear hb1 hm1
    go_wp2_with (first
      | (go_at_call 28; refine (rlock_lit 2 2 4 0 2 l 3 _ HRD.out _).mono ?_; rintro e w5 ⟨rfl, hk5⟩; clear m0 m1 m2 m3 m4 c0 c1 c2 c3 c4 r0 r1 r2 r3 r4 f0 f1 f2 f3 f4 g0 g1 g2 g3 g4 z1 z2; have hb5 := HB1.out.no hk5; have hm5 := HM1.out.keep hk5 (fun f => f) (fun _ _ f => f); obtain ⟨⟨m0, m1, m2, m3, m4⟩, ⟨c0, c1, c2, c3, c4⟩, ⟨r0, r1, r2, r3, r4⟩, ⟨f0, f1, f2, f3, f4⟩, ⟨g0, g1, g2, g3, g4⟩, z1, z2⟩ := hb5.facts; have HB5 := Lib.hid hb5; have HM5 := Lib.hid hm5; clear hb5 hm5))
    have hm := HM5.out
    have hkk : Keeps (own2m a v) w w5 := (HK1.out.trans hk5).no
    refine bodyPost_ret (v := .agg #[.int .i64 t, .int .i64 l, .int .i64 s, .bool r, .int .i64 x]) (by simp [results, Try.results46, go_sem, *]) rfl ⟨rfl, ?_, ?_⟩
    · repeat (first | (with_reducible exact hm) | refine MemT.set (B := B) ?_ ha HV.out _ (by show B ≤ _; dsimp only; omega) _)
    · repeat (first | (with_reducible exact hkk) | refine kset HB.out ?_ _ (by show B ≤ _; dsimp only; omega) _)
  · have g0 : decide ((0 : Int) ≤ s) = true := decide_eq_true (by omega)
    have g5 : decide (s ≤ 5) = false := decide_eq_false (by omega)
    have g11 : decide ((11 : Int) ≤ s) = true := decide_eq_true (by omega)
    have g14 : decide (s ≤ 14) = false := decide_eq_false (by omega)
    clear h
    have hbx := bx_new w 2 2 4 0 2 t l s r x 54
    have hk : Keeps NoS w (((w.alloc (.cells #[.int .i64 2, .int .i64 2, .int .i64 4, .int .i64 0, .int .i64 2] 54)).alloc (.cells #[.int .i64 t, .int .i64 l, .int .i64 s, .bool r, .int .i64 x] 37)).alloc (.cells #[.int .i64 0, .int .i64 0, .int .i64 0, .bool false, .int .i64 0] 37)) := (((Keeps.refl NoS w).alloc _).alloc _).alloc _
    have ha := blk_lt hA.hd
    have hv : ∀ g, v.ownBlock = some g → g < w.heap.size := fun g hg => hA.own_lt hg
    have hA2 := hA.keep hk (fun f => f) (fun _ _ f => f)
    obtain ⟨B, hB⟩ : ∃ B, w.heap.size = B := ⟨_, rfl⟩
    rw [hB] at hbx hv ha
    have HB := Lib.hid hB; have HA2 := Lib.hid hA2; have HK := Lib.hid hk; have HV := Lib.hid hv; have HBX := Lib.hid hbx; have HL := Lib.hid hl48
    clear hB hA2 hk hv hbx hl48 hA
    go_enter Try.func46, Try.ntmps46
    go_wp2_with fail
    (try rw [HB.out])
    refine (rmay8_any t l s r x _).mono ?_
    rw [HOK.out]
    rintro e w1 ⟨rfl, hk1⟩
    have hb1 := HBX.out.no hk1
    have hm1 := HA2.out.keep hk1 (fun f => f) (fun _ _ f => f)
    obtain ⟨⟨m0, m1, m2, m3, m4⟩, ⟨c0, c1, c2, c3, c4⟩, ⟨r0, r1, r2, r3, r4⟩, ⟨f0, f1, f2, f3, f4⟩, ⟨g0, g1, g2, g3, g4⟩, z1, z2⟩ := hb1.facts
    have HB1 := Lib.hid hb1; have HM1 := Lib.hid hm1; have HK1 := Lib.hid (HK.out.trans hk1)
    clear hb1 hm1
    go_wp2_with (first
      | (go_at_call 28; refine (rlock_lit 2 2 4 0 2 l 3 _ HRD.out _).mono ?_; rintro e w5 ⟨rfl, hk5⟩; clear m0 m1 m2 m3 m4 c0 c1 c2 c3 c4 r0 r1 r2 r3 r4 f0 f1 f2 f3 f4 g0 g1 g2 g3 g4 z1 z2; have hb5 := HB1.out.no hk5; have hm5 := HM1.out.keep hk5 (fun f => f) (fun _ _ f => f); obtain ⟨⟨m0, m1, m2, m3, m4⟩, ⟨c0, c1, c2, c3, c4⟩, ⟨r0, r1, r2, r3, r4⟩, ⟨f0, f1, f2, f3, f4⟩, ⟨g0, g1, g2, g3, g4⟩, z1, z2⟩ := hb5.facts; have HB5 := Lib.hid hb5; have HM5 := Lib.hid hm5; clear hb5 hm5))
    have hm := HM5.out
    have hkk : Keeps (own2m a v) w w5 := (HK1.out.trans hk5).no
    refine bodyPost_ret (v := .agg #[.int .i64 t, .int .i64 l, .int .i64 s, .bool r, .int .i64 x]) (by simp [results, Try.results46, go_sem, *]) rfl ⟨rfl, ?_, ?_⟩
    · repeat (first | (with_reducible exact hm) | refine MemT.set (B := B) ?_ ha HV.out _ (by show B ≤ _; dsimp only; omega) _)
    · repeat (first | (with_reducible exact hkk) | refine kset HB.out ?_ _ (by show B ≤ _; dsimp only; omega) _)
theorem rrwtake8_any (t l s : Int) (r : Bool) (x : Int) (a : Nat) (v : Value) (M : MemS) (w : World) (hA : RefAt w a v M) (hl48 : M.L.length = 48) : Calls Try.prog 46 #[.agg #[.int .i64 2, .int .i64 2, .int .i64 4, .int .i64 0, .int .i64 2], .pointer (some ⟨a, 0, none⟩), .agg #[.int .i64 t, .int .i64 l, .int .i64 s, .bool r, .int .i64 x]] w fun e w' => e = .returned (handV (wTakeI M ⟨t, l, s, r, x⟩).2) ∧ RefAt w' a v (wTakeI M ⟨t, l, s, r, x⟩).1 ∧ Keeps (own2m a v) w w' := by
  cases h : okH t l with
  | false =>
    have e : wTakeI M ⟨t, l, s, r, x⟩ = (M, ⟨t, l, s, r, x⟩) := by unfold wTakeI; dsimp only; rw [h]; rfl
    rw [e]
    exact rrwtake8_no t l s r x a v M w h hA hl48
  | true =>
    obtain ⟨a', b', rfl, rfl, ha, hb⟩ := okH_yes h
    rw [wTakeI_nat ha hb]
    exact rrwtake8_yes a' b' s r x a v M w ha hb hA hl48
set_option maxHeartbeats 20000000 in
set_option maxRecDepth 100000 in
theorem rrwdrop8_any (t l s : Int) (r : Bool) (x : Int) (a : Nat) (v : Value) (M : MemS) (w : World) (hA : RefAt w a v M) (hl48 : M.L.length = 48) : Calls Try.prog 44 #[.agg #[.int .i64 2, .int .i64 2, .int .i64 4, .int .i64 0, .int .i64 2], .pointer (some ⟨a, 0, none⟩), .agg #[.int .i64 t, .int .i64 l, .int .i64 s, .bool r, .int .i64 x]] w fun e w' => e = .returned (handV (wDropI M ⟨t, l, s, r, x⟩).2) ∧ RefAt w' a v (wDropI M ⟨t, l, s, r, x⟩).1 ∧ Keeps (own2m a v) w w' := by
  cases r with
  | false =>
    have hres : ∃ M1 s1 x1, wDropI M ⟨t, l, s, false, x⟩ = (M1, ⟨t, l, s1, false, x1⟩) ∧ mDropI M ⟨t, l, s, false, x⟩ = (M1, ⟨t, l, s1, false, x1⟩) := by
      cases h : okH t l with
      | false => exact ⟨M, s, x, by unfold wDropI; dsimp only; rw [h]; rfl, by unfold mDropI; dsimp only; rw [h]; rfl⟩
      | true =>
        obtain ⟨a', b', rfl, rfl, ha, hb⟩ := okH_yes h
        obtain ⟨M1, s1, x1, hd⟩ := mDrop_hnd M a' b' s false x
        exact ⟨M1, s1, x1, by rw [wDropI_nat ha hb]; exact hd, by rw [mDropI_nat ha hb]; exact hd⟩
    obtain ⟨M1, s1, x1, h1, h2⟩ := hres
    rw [h1]
    unfold handV
    dsimp only
    have HD := Lib.hid h2
    clear h1 h2
    have hbx := bx_new w 2 2 4 0 2 t l s false x 54
    have hk : Keeps NoS w (((w.alloc (.cells #[.int .i64 2, .int .i64 2, .int .i64 4, .int .i64 0, .int .i64 2] 54)).alloc (.cells #[.int .i64 t, .int .i64 l, .int .i64 s, .bool false, .int .i64 x] 37)).alloc (.cells #[.int .i64 0, .int .i64 0, .int .i64 0, .bool false, .int .i64 0] 37)) := (((Keeps.refl NoS w).alloc _).alloc _).alloc _
    have ha := blk_lt hA.hd
    have hv : ∀ g, v.ownBlock = some g → g < w.heap.size := fun g hg => hA.own_lt hg
    have hA2 := hA.keep hk (fun f => f) (fun _ _ f => f)
    obtain ⟨B, hB⟩ : ∃ B, w.heap.size = B := ⟨_, rfl⟩
    rw [hB] at hbx hv ha
    have HB := Lib.hid hB; have HA2 := Lib.hid hA2; have HK := Lib.hid hk; have HV := Lib.hid hv; have HBX := Lib.hid hbx; have HL := Lib.hid hl48
    clear hB hA2 hk hv hbx hl48 hA
    go_enter Try.func44, Try.ntmps44
    go_wp2_with fail
    (try rw [HB.out])
    obtain ⟨⟨m0, m1, m2, m3, m4⟩, ⟨c0, c1, c2, c3, c4⟩, ⟨r0, r1, r2, r3, r4⟩, ⟨f0, f1, f2, f3, f4⟩, ⟨g0, g1, g2, g3, g4⟩, z1, z2⟩ := HBX.out.facts
    go_wp2_with (first
      | (go_at_call 33; have hct := rdrop8_any t l s false x a v M _ HA2.out HL.out; rw [HD.out] at hct; unfold handV at hct; dsimp only at hct; refine hct.mono ?_; clear hct; rintro e w4 ⟨rfl, hm, hk4⟩; have hb4 := HBX.out.own hk4 ha HV.out; clear m0 m1 m2 m3 m4 c0 c1 c2 c3 c4 r0 r1 r2 r3 r4 f0 f1 f2 f3 f4 g0 g1 g2 g3 g4 z1 z2; obtain ⟨⟨m0, m1, m2, m3, m4⟩, ⟨c0, c1, c2, c3, c4⟩, ⟨r0, r1, r2, r3, r4⟩, ⟨f0, f1, f2, f3, f4⟩, ⟨g0, g1, g2, g3, g4⟩, z1, z2⟩ := hb4.facts; have HB4 := Lib.hid hb4; have hkk : Keeps (own2m a v) w w4 := HK.out.no.trans hk4; clear hb4))
    refine bodyPost_ret (v := .agg #[.int .i64 t, .int .i64 l, .int .i64 s1, .bool false, .int .i64 x1]) (by simp [results, Try.results44, go_sem, *]) rfl ⟨rfl, ?_, ?_⟩
    · repeat (first | (with_reducible exact hm) | refine MemT.set (B := B) ?_ ha HV.out _ (by show B ≤ _; dsimp only; omega) _)
    · repeat (first | (with_reducible exact hkk) | refine kset HB.out ?_ _ (by show B ≤ _; dsimp only; omega) _)
  | true =>
    cases h : okH t l with
    | false =>
      have e : wDropI M ⟨t, l, s, true, x⟩ = (M, ⟨t, l, s, true, x⟩) := by unfold wDropI; dsimp only; rw [h]; rfl
      rw [e]
      have HOK := Lib.hid h
      clear h e
      unfold handV
      dsimp only
      have hbx := bx_new w 2 2 4 0 2 t l s true x 54
      have hk : Keeps NoS w (((w.alloc (.cells #[.int .i64 2, .int .i64 2, .int .i64 4, .int .i64 0, .int .i64 2] 54)).alloc (.cells #[.int .i64 t, .int .i64 l, .int .i64 s, .bool true, .int .i64 x] 37)).alloc (.cells #[.int .i64 0, .int .i64 0, .int .i64 0, .bool false, .int .i64 0] 37)) := (((Keeps.refl NoS w).alloc _).alloc _).alloc _
      have ha := blk_lt hA.hd
      have hv : ∀ g, v.ownBlock = some g → g < w.heap.size := fun g hg => hA.own_lt hg
      have hA2 := hA.keep hk (fun f => f) (fun _ _ f => f)
      obtain ⟨B, hB⟩ : ∃ B, w.heap.size = B := ⟨_, rfl⟩
      rw [hB] at hbx hv ha
      have HB := Lib.hid hB; have HA2 := Lib.hid hA2; have HK := Lib.hid hk; have HV := Lib.hid hv; have HBX := Lib.hid hbx; have HL := Lib.hid hl48
      clear hB hA2 hk hv hbx hl48 hA
      go_enter Try.func44, Try.ntmps44
      go_wp2_with fail
      (try rw [HB.out])
      refine (rmay8_any t l s true x _).mono ?_
      rw [HOK.out]
      rintro e w1 ⟨rfl, hk1⟩
      have hb1 := HBX.out.no hk1
      have hm1 := HA2.out.keep hk1 (fun f => f) (fun _ _ f => f)
      obtain ⟨⟨m0, m1, m2, m3, m4⟩, ⟨c0, c1, c2, c3, c4⟩, ⟨r0, r1, r2, r3, r4⟩, ⟨f0, f1, f2, f3, f4⟩, ⟨g0, g1, g2, g3, g4⟩, z1, z2⟩ := hb1.facts
      have HB1 := Lib.hid hb1; have HM1 := Lib.hid hm1; have HK1 := Lib.hid (HK.out.trans hk1)
      clear hb1 hm1
      have hm := HM1.out
      have hkk : Keeps (own2m a v) w w1 := HK1.out.no
      go_wp2_with fail
      refine bodyPost_ret (v := .agg #[.int .i64 t, .int .i64 l, .int .i64 s, .bool true, .int .i64 x]) (by simp [results, Try.results44, go_sem, *]) rfl ⟨rfl, ?_, ?_⟩
      · repeat (first | (with_reducible exact hm) | refine MemT.set (B := B) ?_ ha HV.out _ (by show B ≤ _; dsimp only; omega) _)
      · repeat (first | (with_reducible exact hkk) | refine kset HB.out ?_ _ (by show B ≤ _; dsimp only; omega) _)
    | true =>
      obtain ⟨t, l, rfl, rfl, ht, hl⟩ := okH_yes h
      rw [wDropI_nat ht hl]
      have HOK := Lib.hid (okH_nat ht hl)
      obtain ⟨A, hAA⟩ : ∃ A : Int, ((rdA l : Nat) : Int) = A := ⟨_, rfl⟩
      have hrd := rdA_eq hl
      rw [hAA] at hrd
      have HRD := Lib.hid hrd; have HAA := Lib.hid hAA
      have HRL := Lib.hid (show rdA l < M.L.length by rw [hl48]; exact rdA_lt hl)
      clear hrd hAA
      by_cases h9 : s = 9
      · subst h9
        rw [show wDrop M t l 9 true x = (M.add (rdA l) (-1), ⟨t, l, 0, true, x⟩) from rfl]
        unfold handV
        dsimp only
        clear h
        have hbx := bx_new w 2 2 4 0 2 t l 9 true x 54
        have hk : Keeps NoS w (((w.alloc (.cells #[.int .i64 2, .int .i64 2, .int .i64 4, .int .i64 0, .int .i64 2] 54)).alloc (.cells #[.int .i64 t, .int .i64 l, .int .i64 9, .bool true, .int .i64 x] 37)).alloc (.cells #[.int .i64 0, .int .i64 0, .int .i64 0, .bool false, .int .i64 0] 37)) := (((Keeps.refl NoS w).alloc _).alloc _).alloc _
        have ha := blk_lt hA.hd
        have hv : ∀ g, v.ownBlock = some g → g < w.heap.size := fun g hg => hA.own_lt hg
        have hA2 := hA.keep hk (fun f => f) (fun _ _ f => f)
        obtain ⟨B, hB⟩ : ∃ B, w.heap.size = B := ⟨_, rfl⟩
        rw [hB] at hbx hv ha
        have HB := Lib.hid hB; have HA2 := Lib.hid hA2; have HK := Lib.hid hk; have HV := Lib.hid hv; have HBX := Lib.hid hbx; have HL := Lib.hid hl48
        clear hB hA2 hk hv hbx hl48 hA
        go_enter Try.func44, Try.ntmps44
        go_wp2_with fail
        (try rw [HB.out])
        refine (rmay8_any t l 9 true x _).mono ?_
        rw [HOK.out]
        rintro e w1 ⟨rfl, hk1⟩
        have hb1 := HBX.out.no hk1
        have hm1 := HA2.out.keep hk1 (fun f => f) (fun _ _ f => f)
        obtain ⟨⟨m0, m1, m2, m3, m4⟩, ⟨c0, c1, c2, c3, c4⟩, ⟨r0, r1, r2, r3, r4⟩, ⟨f0, f1, f2, f3, f4⟩, ⟨g0, g1, g2, g3, g4⟩, z1, z2⟩ := hb1.facts
        have HB1 := Lib.hid hb1; have HM1 := Lib.hid hm1; have HK1 := Lib.hid (HK.out.trans hk1)
        clear hb1 hm1
        go_wp2_with (first
          | (go_at_call 28; refine (rlock_lit 2 2 4 0 2 l 3 _ HRD.out _).mono ?_; rintro e w5 ⟨rfl, hk5⟩; clear m0 m1 m2 m3 m4 c0 c1 c2 c3 c4 r0 r1 r2 r3 r4 f0 f1 f2 f3 f4 g0 g1 g2 g3 g4 z1 z2; have hb5 := HB1.out.no hk5; have hm5 := HM1.out.keep hk5 (fun f => f) (fun _ _ f => f); obtain ⟨⟨m0, m1, m2, m3, m4⟩, ⟨c0, c1, c2, c3, c4⟩, ⟨r0, r1, r2, r3, r4⟩, ⟨f0, f1, f2, f3, f4⟩, ⟨g0, g1, g2, g3, g4⟩, z1, z2⟩ := hb5.facts; have HB5 := Lib.hid hb5; have HM5 := Lib.hid hm5; clear hb5 hm5)
          | (go_at_call 72; rw [← HAA.out]; refine (radd_ok a v M (rdA l) (-1) _ HM5.out HRL.out).mono ?_; rintro e w4 ⟨rfl, hm, hk4⟩; have hb4 := HB5.out.own hk4 ha HV.out; clear m0 m1 m2 m3 m4 c0 c1 c2 c3 c4 r0 r1 r2 r3 r4 f0 f1 f2 f3 f4 g0 g1 g2 g3 g4 z1 z2; obtain ⟨⟨m0, m1, m2, m3, m4⟩, ⟨c0, c1, c2, c3, c4⟩, ⟨r0, r1, r2, r3, r4⟩, ⟨f0, f1, f2, f3, f4⟩, ⟨g0, g1, g2, g3, g4⟩, z1, z2⟩ := hb4.facts; have HB4 := Lib.hid hb4; have hkk : Keeps (own2m a v) w w4 := (HK1.out.trans hk5).no.trans hk4; clear hb4))
        refine bodyPost_ret (v := .agg #[.int .i64 t, .int .i64 l, .int .i64 0, .bool true, .int .i64 x]) (by simp [results, Try.results44, go_sem, *]) rfl ⟨rfl, ?_, ?_⟩
        · repeat (first | (with_reducible exact hm) | refine MemT.set (B := B) ?_ ha HV.out _ (by show B ≤ _; dsimp only; omega) _)
        · repeat (first | (with_reducible exact hkk) | refine kset HB.out ?_ _ (by show B ≤ _; dsimp only; omega) _)
      · rw [show wDrop M t l s true x = (M, ⟨t, l, s, true, x⟩) by unfold wDrop; rw [if_pos rfl, if_neg h9]]
        have h9' : (s == 9) = false := by simpa using h9
        clear h9 h
        unfold handV
        dsimp only
        have hbx := bx_new w 2 2 4 0 2 t l s true x 54
        have hk : Keeps NoS w (((w.alloc (.cells #[.int .i64 2, .int .i64 2, .int .i64 4, .int .i64 0, .int .i64 2] 54)).alloc (.cells #[.int .i64 t, .int .i64 l, .int .i64 s, .bool true, .int .i64 x] 37)).alloc (.cells #[.int .i64 0, .int .i64 0, .int .i64 0, .bool false, .int .i64 0] 37)) := (((Keeps.refl NoS w).alloc _).alloc _).alloc _
        have ha := blk_lt hA.hd
        have hv : ∀ g, v.ownBlock = some g → g < w.heap.size := fun g hg => hA.own_lt hg
        have hA2 := hA.keep hk (fun f => f) (fun _ _ f => f)
        obtain ⟨B, hB⟩ : ∃ B, w.heap.size = B := ⟨_, rfl⟩
        rw [hB] at hbx hv ha
        have HB := Lib.hid hB; have HA2 := Lib.hid hA2; have HK := Lib.hid hk; have HV := Lib.hid hv; have HBX := Lib.hid hbx; have HL := Lib.hid hl48
        clear hB hA2 hk hv hbx hl48 hA
        go_enter Try.func44, Try.ntmps44
        go_wp2_with fail
        (try rw [HB.out])
        refine (rmay8_any t l s true x _).mono ?_
        rw [HOK.out]
        rintro e w1 ⟨rfl, hk1⟩
        have hb1 := HBX.out.no hk1
        have hm1 := HA2.out.keep hk1 (fun f => f) (fun _ _ f => f)
        obtain ⟨⟨m0, m1, m2, m3, m4⟩, ⟨c0, c1, c2, c3, c4⟩, ⟨r0, r1, r2, r3, r4⟩, ⟨f0, f1, f2, f3, f4⟩, ⟨g0, g1, g2, g3, g4⟩, z1, z2⟩ := hb1.facts
        have HB1 := Lib.hid hb1; have HM1 := Lib.hid hm1; have HK1 := Lib.hid (HK.out.trans hk1)
        clear hb1 hm1
        go_wp2_with fail
        have hm := HM1.out
        have hkk : Keeps (own2m a v) w w1 := HK1.out.no
        refine bodyPost_ret (v := .agg #[.int .i64 t, .int .i64 l, .int .i64 s, .bool true, .int .i64 x]) (by simp [results, Try.results44, go_sem, *]) rfl ⟨rfl, ?_, ?_⟩
        · repeat (first | (with_reducible exact hm) | refine MemT.set (B := B) ?_ ha HV.out _ (by show B ≤ _; dsimp only; omega) _)
        · repeat (first | (with_reducible exact hkk) | refine kset HB.out ?_ _ (by show B ≤ _; dsimp only; omega) _)
end Go.Proofs.Ytjchcmomppfilaa
