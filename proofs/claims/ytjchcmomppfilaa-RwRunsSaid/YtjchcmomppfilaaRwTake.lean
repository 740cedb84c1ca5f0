/- Package rwq at layer 8's map: Take, Drop, Inside. -/
import Derived.Test.YtjchcmomppfilaaRw
namespace Go.Proofs.Ytjchcmomppfilaa
open Go.RowKit
set_option maxHeartbeats 20000000 in
set_option maxRecDepth 100000 in
theorem rwtake8_no (t l s : Int) (r : Bool) (x : Int) (a : Nat) (v : Value) (M : MemS) (w : World) (hok : okH t l = false) (hA : MemAt w a v M) (hl48 : M.L.length = 48) : Calls Try.prog 45 #[.agg #[.int .i64 2, .int .i64 2, .int .i64 4, .int .i64 0, .int .i64 2], .pointer (some ⟨a, 0, none⟩), .agg #[.int .i64 t, .int .i64 l, .int .i64 s, .bool r, .int .i64 x]] w fun e w' => e = .returned (.agg #[.int .i64 t, .int .i64 l, .int .i64 s, .bool r, .int .i64 x]) ∧ MemAt w' a v M ∧ Keeps (own2m a v) w w' := by
  have HOK := Lib.hid hok
  clear hok
  have hbx := bx_new w 2 2 4 0 2 t l s r x 24
  have hk : Keeps NoS w (((w.alloc (.cells #[.int .i64 2, .int .i64 2, .int .i64 4, .int .i64 0, .int .i64 2] 24)).alloc (.cells #[.int .i64 t, .int .i64 l, .int .i64 s, .bool r, .int .i64 x] 37)).alloc (.cells #[.int .i64 0, .int .i64 0, .int .i64 0, .bool false, .int .i64 0] 37)) := (((Keeps.refl NoS w).alloc _).alloc _).alloc _
  have ha := blk_lt hA.hd
  have hv : ∀ g, v.ownBlock = some g → g < w.heap.size := fun g hg => hA.own_lt hg
  have hA2 := hA.keep hk (fun f => f) (fun _ _ f => f)
  obtain ⟨B, hB⟩ : ∃ B, w.heap.size = B := ⟨_, rfl⟩
  rw [hB] at hbx hv ha
  have HB := Lib.hid hB; have HA2 := Lib.hid hA2; have HK := Lib.hid hk; have HV := Lib.hid hv; have HBX := Lib.hid hbx; have HL := Lib.hid hl48
  clear hB hA2 hk hv hbx hl48 hA
  go_enter Try.func45, Try.ntmps45
  go_wp2_with fail
  (try rw [HB.out])
  refine (rwfits_any t l s r x a v M _ HA2.out HL.out).mono ?_
  rw [HOK.out]
  rintro e w1 ⟨rfl, hk1⟩
  have hb1 := HBX.out.no hk1
  have hm1 := HA2.out.keep hk1 (fun f => f) (fun _ _ f => f)
  obtain ⟨⟨m0, m1, m2, m3, m4⟩, ⟨c0, c1, c2, c3, c4⟩, ⟨r0, r1, r2, r3, r4⟩, ⟨f0, f1, f2, f3, f4⟩, ⟨g0, g1, g2, g3, g4⟩, z1, z2⟩ := hb1.facts
  have HB1 := Lib.hid hb1; have HM1 := Lib.hid hm1; have HK1 := Lib.hid (HK.out.trans hk1)
  clear hb1 hm1
  have hm := HM1.out
  have hkk : Keeps (own2m a v) w w1 := HK1.out.no
  go_wp2_with fail
  refine bodyPost_ret (v := .agg #[.int .i64 t, .int .i64 l, .int .i64 s, .bool r, .int .i64 x]) (by simp [results, Try.results45, go_sem, *]) rfl ⟨rfl, ?_, ?_⟩
  · repeat (first | (with_reducible exact hm) | refine MemT.set (B := B) ?_ ha HV.out _ (by show B ≤ _; dsimp only; omega) _)
  · repeat (first | (with_reducible exact hkk) | refine kset HB.out ?_ _ (by show B ≤ _; dsimp only; omega) _)
set_option maxHeartbeats 20000000 in
set_option maxRecDepth 100000 in
theorem rwdrop8_no (t l s : Int) (r : Bool) (x : Int) (a : Nat) (v : Value) (M : MemS) (w : World) (hok : okH t l = false) (hA : MemAt w a v M) (hl48 : M.L.length = 48) : Calls Try.prog 43 #[.agg #[.int .i64 2, .int .i64 2, .int .i64 4, .int .i64 0, .int .i64 2], .pointer (some ⟨a, 0, none⟩), .agg #[.int .i64 t, .int .i64 l, .int .i64 s, .bool r, .int .i64 x]] w fun e w' => e = .returned (.agg #[.int .i64 t, .int .i64 l, .int .i64 s, .bool r, .int .i64 x]) ∧ MemAt w' a v M ∧ Keeps (own2m a v) w w' := by
  have HOK := Lib.hid hok
  clear hok
  have hbx := bx_new w 2 2 4 0 2 t l s r x 24
  have hk : Keeps NoS w (((w.alloc (.cells #[.int .i64 2, .int .i64 2, .int .i64 4, .int .i64 0, .int .i64 2] 24)).alloc (.cells #[.int .i64 t, .int .i64 l, .int .i64 s, .bool r, .int .i64 x] 37)).alloc (.cells #[.int .i64 0, .int .i64 0, .int .i64 0, .bool false, .int .i64 0] 37)) := (((Keeps.refl NoS w).alloc _).alloc _).alloc _
  have ha := blk_lt hA.hd
  have hv : ∀ g, v.ownBlock = some g → g < w.heap.size := fun g hg => hA.own_lt hg
  have hA2 := hA.keep hk (fun f => f) (fun _ _ f => f)
  obtain ⟨B, hB⟩ : ∃ B, w.heap.size = B := ⟨_, rfl⟩
  rw [hB] at hbx hv ha
  have HB := Lib.hid hB; have HA2 := Lib.hid hA2; have HK := Lib.hid hk; have HV := Lib.hid hv; have HBX := Lib.hid hbx; have HL := Lib.hid hl48
  clear hB hA2 hk hv hbx hl48 hA
  go_enter Try.func43, Try.ntmps43
  go_wp2_with fail
  (try rw [HB.out])
  refine (rwfits_any t l s r x a v M _ HA2.out HL.out).mono ?_
  rw [HOK.out]
  rintro e w1 ⟨rfl, hk1⟩
  have hb1 := HBX.out.no hk1
  have hm1 := HA2.out.keep hk1 (fun f => f) (fun _ _ f => f)
  obtain ⟨⟨m0, m1, m2, m3, m4⟩, ⟨c0, c1, c2, c3, c4⟩, ⟨r0, r1, r2, r3, r4⟩, ⟨f0, f1, f2, f3, f4⟩, ⟨g0, g1, g2, g3, g4⟩, z1, z2⟩ := hb1.facts
  have HB1 := Lib.hid hb1; have HM1 := Lib.hid hm1; have HK1 := Lib.hid (HK.out.trans hk1)
  clear hb1 hm1
  have hm := HM1.out
  have hkk : Keeps (own2m a v) w w1 := HK1.out.no
  go_wp2_with fail
  refine bodyPost_ret (v := .agg #[.int .i64 t, .int .i64 l, .int .i64 s, .bool r, .int .i64 x]) (by simp [results, Try.results43, go_sem, *]) rfl ⟨rfl, ?_, ?_⟩
  · repeat (first | (with_reducible exact hm) | refine MemT.set (B := B) ?_ ha HV.out _ (by show B ≤ _; dsimp only; omega) _)
  · repeat (first | (with_reducible exact hkk) | refine kset HB.out ?_ _ (by show B ≤ _; dsimp only; omega) _)
set_option maxHeartbeats 20000000 in
set_option maxRecDepth 100000 in
theorem rwtake8_yes (t l : Nat) (s : Int) (r : Bool) (x : Int) (a : Nat) (v : Value) (M : MemS) (w : World) (ht : t < 4) (hl : l < 2) (hA : MemAt w a v M) (hl48 : M.L.length = 48) : Calls Try.prog 45 #[.agg #[.int .i64 2, .int .i64 2, .int .i64 4, .int .i64 0, .int .i64 2], .pointer (some ⟨a, 0, none⟩), .agg #[.int .i64 t, .int .i64 l, .int .i64 s, .bool r, .int .i64 x]] w fun e w' => e = .returned (handV (wTake M t l s r x).2) ∧ MemAt w' a v (wTake M t l s r x).1 ∧ Keeps (own2m a v) w w' := by
  have HOK := Lib.hid (okH_nat ht hl)
  obtain ⟨A, hAA⟩ : ∃ A : Int, ((rdA l : Nat) : Int) = A := ⟨_, rfl⟩
  have hrd := rdA_eq hl
  rw [hAA] at hrd
  have HRD := Lib.hid hrd; have HAA := Lib.hid hAA
  have HRL := Lib.hid (show rdA l < M.L.length by rw [hl48]; exact rdA_lt hl)
  clear hrd hAA
  by_cases hs05 : 0 ≤ s ∧ s ≤ 5
  · obtain ⟨M1, s1, x1, hd⟩ := mTake_hnd M t l s r x
    have HD := Lib.hid hd
    rw [show wTake M t l s r x = (M1, ⟨t, l, if s1 = 9 then 10 else s1, r, x1⟩) by unfold wTake; rw [if_pos hs05, hd]]
    clear hd
    unfold handV
    dsimp only
    by_cases h9 : s1 = 9
    · subst h9
      rw [if_pos rfl]
      have hs : s = 0 ∨ s = 1 ∨ s = 2 ∨ s = 3 ∨ s = 4 ∨ s = 5 := by omega
      clear hs05
      rcases hs with rfl | rfl | rfl | rfl | rfl | rfl
      · have hbx := bx_new w 2 2 4 0 2 t l 0 r x 24
        have hk : Keeps NoS w (((w.alloc (.cells #[.int .i64 2, .int .i64 2, .int .i64 4, .int .i64 0, .int .i64 2] 24)).alloc (.cells #[.int .i64 t, .int .i64 l, .int .i64 0, .bool r, .int .i64 x] 37)).alloc (.cells #[.int .i64 0, .int .i64 0, .int .i64 0, .bool false, .int .i64 0] 37)) := (((Keeps.refl NoS w).alloc _).alloc _).alloc _
        have ha := blk_lt hA.hd
        have hv : ∀ g, v.ownBlock = some g → g < w.heap.size := fun g hg => hA.own_lt hg
        have hA2 := hA.keep hk (fun f => f) (fun _ _ f => f)
        obtain ⟨B, hB⟩ : ∃ B, w.heap.size = B := ⟨_, rfl⟩
        rw [hB] at hbx hv ha
        have HB := Lib.hid hB; have HA2 := Lib.hid hA2; have HK := Lib.hid hk; have HV := Lib.hid hv; have HBX := Lib.hid hbx; have HL := Lib.hid hl48
        clear hB hA2 hk hv hbx hl48 hA
        go_enter Try.func45, Try.ntmps45
        go_wp2_with fail
        (try rw [HB.out])
        refine (rwfits_any t l 0 r x a v M _ HA2.out HL.out).mono ?_
        rw [HOK.out]
        rintro e w1 ⟨rfl, hk1⟩
        have hb1 := HBX.out.no hk1
        have hm1 := HA2.out.keep hk1 (fun f => f) (fun _ _ f => f)
        obtain ⟨⟨m0, m1, m2, m3, m4⟩, ⟨c0, c1, c2, c3, c4⟩, ⟨r0, r1, r2, r3, r4⟩, ⟨f0, f1, f2, f3, f4⟩, ⟨g0, g1, g2, g3, g4⟩, z1, z2⟩ := hb1.facts
        have HB1 := Lib.hid hb1; have HM1 := Lib.hid hm1; have HK1 := Lib.hid (HK.out.trans hk1)
        clear hb1 hm1
        go_upto_region 17 with (first
          | (go_at_call 24; refine (lock_lit 2 2 4 0 2 l 3 _ HRD.out _).mono ?_; rintro e w5 ⟨rfl, hk5⟩; clear m0 m1 m2 m3 m4 c0 c1 c2 c3 c4 r0 r1 r2 r3 r4 f0 f1 f2 f3 f4 g0 g1 g2 g3 g4 z1 z2; have hb5 := HB1.out.no hk5; have hm5 := HM1.out.keep hk5 (fun f => f) (fun _ _ f => f); obtain ⟨⟨m0, m1, m2, m3, m4⟩, ⟨c0, c1, c2, c3, c4⟩, ⟨r0, r1, r2, r3, r4⟩, ⟨f0, f1, f2, f3, f4⟩, ⟨g0, g1, g2, g3, g4⟩, z1, z2⟩ := hb5.facts; have HB5 := Lib.hid hb5; have HM5 := Lib.hid hm5; clear hb5 hm5)
          | (go_at_call 18; have hct := take8_yes t l 0 r x a v M _ ht hl HM5.out HL.out; rw [HD.out] at hct; unfold handV at hct; dsimp only at hct; refine hct.mono ?_; clear hct; rintro e w4 ⟨rfl, hm, hk4⟩; have hb4 := HB5.out.own hk4 ha HV.out; clear m0 m1 m2 m3 m4 c0 c1 c2 c3 c4 r0 r1 r2 r3 r4 f0 f1 f2 f3 f4 g0 g1 g2 g3 g4 z1 z2; obtain ⟨⟨m0, m1, m2, m3, m4⟩, ⟨c0, c1, c2, c3, c4⟩, ⟨r0, r1, r2, r3, r4⟩, ⟨f0, f1, f2, f3, f4⟩, ⟨g0, g1, g2, g3, g4⟩, z1, z2⟩ := hb4.facts; have HB4 := Lib.hid hb4; have hkk : Keeps (own2m a v) w w4 := (HK1.out.trans hk5).no.trans hk4; clear hb4))
        have hbN := HB4.out.h5 t l 9 r x1
        have hmN : MemAt (((((w4.setCell ⟨B + 1, 0, none⟩ (.int .i64 t)).setCell ⟨B + 1, 1, none⟩ (.int .i64 l)).setCell ⟨B + 1, 2, none⟩ (.int .i64 9)).setCell ⟨B + 1, 3, none⟩ (.bool r)).setCell ⟨B + 1, 4, none⟩ (.int .i64 x1)) a v M1 := by
          repeat (first | (with_reducible exact hm) | refine MemT.set (B := B) ?_ ha HV.out _ (by show B ≤ _; dsimp only; omega) _)
        have hkN : Keeps (own2m a v) w (((((w4.setCell ⟨B + 1, 0, none⟩ (.int .i64 t)).setCell ⟨B + 1, 1, none⟩ (.int .i64 l)).setCell ⟨B + 1, 2, none⟩ (.int .i64 9)).setCell ⟨B + 1, 3, none⟩ (.bool r)).setCell ⟨B + 1, 4, none⟩ (.int .i64 x1)) := by
          repeat (first | (with_reducible exact hkk) | refine kset HB.out ?_ _ (by show B ≤ _; dsimp only; omega) _)
        generalize (((((w4.setCell ⟨B + 1, 0, none⟩ (.int .i64 t)).setCell ⟨B + 1, 1, none⟩ (.int .i64 l)).setCell ⟨B + 1, 2, none⟩ (.int .i64 9)).setCell ⟨B + 1, 3, none⟩ (.bool r)).setCell ⟨B + 1, 4, none⟩ (.int .i64 x1)) = w6 at *
        clear hm hkk m0 m1 m2 m3 m4 c0 c1 c2 c3 c4 r0 r1 r2 r3 r4 f0 f1 f2 f3 f4 g0 g1 g2 g3 g4 z1 z2
        obtain ⟨⟨m0, m1, m2, m3, m4⟩, ⟨c0, c1, c2, c3, c4⟩, ⟨r0, r1, r2, r3, r4⟩, ⟨f0, f1, f2, f3, f4⟩, ⟨g0, g1, g2, g3, g4⟩, z1, z2⟩ := hbN.facts
        have HB6 := Lib.hid hbN; have HM6 := Lib.hid hmN; have HK6 := Lib.hid hkN
        have hm := hmN; have hkk := hkN
        clear hbN hmN hkN
        go_upto_region 29 with fail
        have hbN := HB6.out.st 10
        have hmN : MemAt (w6.setCell ⟨B + 1, 2, none⟩ (.int .i64 10)) a v M1 := by
          repeat (first | (with_reducible exact hm) | refine MemT.set (B := B) ?_ ha HV.out _ (by show B ≤ _; dsimp only; omega) _)
        have hkN : Keeps (own2m a v) w (w6.setCell ⟨B + 1, 2, none⟩ (.int .i64 10)) := by
          repeat (first | (with_reducible exact hkk) | refine kset HB.out ?_ _ (by show B ≤ _; dsimp only; omega) _)
        generalize (w6.setCell ⟨B + 1, 2, none⟩ (.int .i64 10)) = w7 at *
        clear hm hkk m0 m1 m2 m3 m4 c0 c1 c2 c3 c4 r0 r1 r2 r3 r4 f0 f1 f2 f3 f4 g0 g1 g2 g3 g4 z1 z2
        obtain ⟨⟨m0, m1, m2, m3, m4⟩, ⟨c0, c1, c2, c3, c4⟩, ⟨r0, r1, r2, r3, r4⟩, ⟨f0, f1, f2, f3, f4⟩, ⟨g0, g1, g2, g3, g4⟩, z1, z2⟩ := hbN.facts
        have HB7 := Lib.hid hbN; have HM7 := Lib.hid hmN; have HK7 := Lib.hid hkN
        have hm := hmN; have hkk := hkN
        clear hbN hmN hkN
        go_wp2_with fail
        refine bodyPost_ret (v := .agg #[.int .i64 t, .int .i64 l, .int .i64 10, .bool r, .int .i64 x1]) (by simp [results, Try.results45, go_sem, *]) rfl ⟨rfl, ?_, ?_⟩
        · repeat (first | (with_reducible exact hm) | refine MemT.set (B := B) ?_ ha HV.out _ (by show B ≤ _; dsimp only; omega) _)
        · repeat (first | (with_reducible exact hkk) | refine kset HB.out ?_ _ (by show B ≤ _; dsimp only; omega) _)
      · have hbx := bx_new w 2 2 4 0 2 t l 1 r x 24
        have hk : Keeps NoS w (((w.alloc (.cells #[.int .i64 2, .int .i64 2, .int .i64 4, .int .i64 0, .int .i64 2] 24)).alloc (.cells #[.int .i64 t, .int .i64 l, .int .i64 1, .bool r, .int .i64 x] 37)).alloc (.cells #[.int .i64 0, .int .i64 0, .int .i64 0, .bool false, .int .i64 0] 37)) := (((Keeps.refl NoS w).alloc _).alloc _).alloc _
        have ha := blk_lt hA.hd
        have hv : ∀ g, v.ownBlock = some g → g < w.heap.size := fun g hg => hA.own_lt hg
        have hA2 := hA.keep hk (fun f => f) (fun _ _ f => f)
        obtain ⟨B, hB⟩ : ∃ B, w.heap.size = B := ⟨_, rfl⟩
        rw [hB] at hbx hv ha
        have HB := Lib.hid hB; have HA2 := Lib.hid hA2; have HK := Lib.hid hk; have HV := Lib.hid hv; have HBX := Lib.hid hbx; have HL := Lib.hid hl48
        clear hB hA2 hk hv hbx hl48 hA
        go_enter Try.func45, Try.ntmps45
        go_wp2_with fail
        (try rw [HB.out])
        refine (rwfits_any t l 1 r x a v M _ HA2.out HL.out).mono ?_
        rw [HOK.out]
        rintro e w1 ⟨rfl, hk1⟩
        have hb1 := HBX.out.no hk1
        have hm1 := HA2.out.keep hk1 (fun f => f) (fun _ _ f => f)
        obtain ⟨⟨m0, m1, m2, m3, m4⟩, ⟨c0, c1, c2, c3, c4⟩, ⟨r0, r1, r2, r3, r4⟩, ⟨f0, f1, f2, f3, f4⟩, ⟨g0, g1, g2, g3, g4⟩, z1, z2⟩ := hb1.facts
        have HB1 := Lib.hid hb1; have HM1 := Lib.hid hm1; have HK1 := Lib.hid (HK.out.trans hk1)
        clear hb1 hm1
        go_upto_region 17 with (first
          | (go_at_call 24; refine (lock_lit 2 2 4 0 2 l 3 _ HRD.out _).mono ?_; rintro e w5 ⟨rfl, hk5⟩; clear m0 m1 m2 m3 m4 c0 c1 c2 c3 c4 r0 r1 r2 r3 r4 f0 f1 f2 f3 f4 g0 g1 g2 g3 g4 z1 z2; have hb5 := HB1.out.no hk5; have hm5 := HM1.out.keep hk5 (fun f => f) (fun _ _ f => f); obtain ⟨⟨m0, m1, m2, m3, m4⟩, ⟨c0, c1, c2, c3, c4⟩, ⟨r0, r1, r2, r3, r4⟩, ⟨f0, f1, f2, f3, f4⟩, ⟨g0, g1, g2, g3, g4⟩, z1, z2⟩ := hb5.facts; have HB5 := Lib.hid hb5; have HM5 := Lib.hid hm5; clear hb5 hm5)
          | (go_at_call 18; have hct := take8_yes t l 1 r x a v M _ ht hl HM5.out HL.out; rw [HD.out] at hct; unfold handV at hct; dsimp only at hct; refine hct.mono ?_; clear hct; rintro e w4 ⟨rfl, hm, hk4⟩; have hb4 := HB5.out.own hk4 ha HV.out; clear m0 m1 m2 m3 m4 c0 c1 c2 c3 c4 r0 r1 r2 r3 r4 f0 f1 f2 f3 f4 g0 g1 g2 g3 g4 z1 z2; obtain ⟨⟨m0, m1, m2, m3, m4⟩, ⟨c0, c1, c2, c3, c4⟩, ⟨r0, r1, r2, r3, r4⟩, ⟨f0, f1, f2, f3, f4⟩, ⟨g0, g1, g2, g3, g4⟩, z1, z2⟩ := hb4.facts; have HB4 := Lib.hid hb4; have hkk : Keeps (own2m a v) w w4 := (HK1.out.trans hk5).no.trans hk4; clear hb4))
        have hbN := HB4.out.h5 t l 9 r x1
        have hmN : MemAt (((((w4.setCell ⟨B + 1, 0, none⟩ (.int .i64 t)).setCell ⟨B + 1, 1, none⟩ (.int .i64 l)).setCell ⟨B + 1, 2, none⟩ (.int .i64 9)).setCell ⟨B + 1, 3, none⟩ (.bool r)).setCell ⟨B + 1, 4, none⟩ (.int .i64 x1)) a v M1 := by
          repeat (first | (with_reducible exact hm) | refine MemT.set (B := B) ?_ ha HV.out _ (by show B ≤ _; dsimp only; omega) _)
        have hkN : Keeps (own2m a v) w (((((w4.setCell ⟨B + 1, 0, none⟩ (.int .i64 t)).setCell ⟨B + 1, 1, none⟩ (.int .i64 l)).setCell ⟨B + 1, 2, none⟩ (.int .i64 9)).setCell ⟨B + 1, 3, none⟩ (.bool r)).setCell ⟨B + 1, 4, none⟩ (.int .i64 x1)) := by
          repeat (first | (with_reducible exact hkk) | refine kset HB.out ?_ _ (by show B ≤ _; dsimp only; omega) _)
        generalize (((((w4.setCell ⟨B + 1, 0, none⟩ (.int .i64 t)).setCell ⟨B + 1, 1, none⟩ (.int .i64 l)).setCell ⟨B + 1, 2, none⟩ (.int .i64 9)).setCell ⟨B + 1, 3, none⟩ (.bool r)).setCell ⟨B + 1, 4, none⟩ (.int .i64 x1)) = w6 at *
        clear hm hkk m0 m1 m2 m3 m4 c0 c1 c2 c3 c4 r0 r1 r2 r3 r4 f0 f1 f2 f3 f4 g0 g1 g2 g3 g4 z1 z2
        obtain ⟨⟨m0, m1, m2, m3, m4⟩, ⟨c0, c1, c2, c3, c4⟩, ⟨r0, r1, r2, r3, r4⟩, ⟨f0, f1, f2, f3, f4⟩, ⟨g0, g1, g2, g3, g4⟩, z1, z2⟩ := hbN.facts
        have HB6 := Lib.hid hbN; have HM6 := Lib.hid hmN; have HK6 := Lib.hid hkN
        have hm := hmN; have hkk := hkN
        clear hbN hmN hkN
        go_upto_region 29 with fail
        have hbN := HB6.out.st 10
        have hmN : MemAt (w6.setCell ⟨B + 1, 2, none⟩ (.int .i64 10)) a v M1 := by
          repeat (first | (with_reducible exact hm) | refine MemT.set (B := B) ?_ ha HV.out _ (by show B ≤ _; dsimp only; omega) _)
        have hkN : Keeps (own2m a v) w (w6.setCell ⟨B + 1, 2, none⟩ (.int .i64 10)) := by
          repeat (first | (with_reducible exact hkk) | refine kset HB.out ?_ _ (by show B ≤ _; dsimp only; omega) _)
        generalize (w6.setCell ⟨B + 1, 2, none⟩ (.int .i64 10)) = w7 at *
        clear hm hkk m0 m1 m2 m3 m4 c0 c1 c2 c3 c4 r0 r1 r2 r3 r4 f0 f1 f2 f3 f4 g0 g1 g2 g3 g4 z1 z2
        obtain ⟨⟨m0, m1, m2, m3, m4⟩, ⟨c0, c1, c2, c3, c4⟩, ⟨r0, r1, r2, r3, r4⟩, ⟨f0, f1, f2, f3, f4⟩, ⟨g0, g1, g2, g3, g4⟩, z1, z2⟩ := hbN.facts
        have HB7 := Lib.hid hbN; have HM7 := Lib.hid hmN; have HK7 := Lib.hid hkN
        have hm := hmN; have hkk := hkN
        clear hbN hmN hkN
        go_wp2_with fail
        refine bodyPost_ret (v := .agg #[.int .i64 t, .int .i64 l, .int .i64 10, .bool r, .int .i64 x1]) (by simp [results, Try.results45, go_sem, *]) rfl ⟨rfl, ?_, ?_⟩
        · repeat (first | (with_reducible exact hm) | refine MemT.set (B := B) ?_ ha HV.out _ (by show B ≤ _; dsimp only; omega) _)
        · repeat (first | (with_reducible exact hkk) | refine kset HB.out ?_ _ (by show B ≤ _; dsimp only; omega) _)
      · have hbx := bx_new w 2 2 4 0 2 t l 2 r x 24
        have hk : Keeps NoS w (((w.alloc (.cells #[.int .i64 2, .int .i64 2, .int .i64 4, .int .i64 0, .int .i64 2] 24)).alloc (.cells #[.int .i64 t, .int .i64 l, .int .i64 2, .bool r, .int .i64 x] 37)).alloc (.cells #[.int .i64 0, .int .i64 0, .int .i64 0, .bool false, .int .i64 0] 37)) := (((Keeps.refl NoS w).alloc _).alloc _).alloc _
        have ha := blk_lt hA.hd
        have hv : ∀ g, v.ownBlock = some g → g < w.heap.size := fun g hg => hA.own_lt hg
        have hA2 := hA.keep hk (fun f => f) (fun _ _ f => f)
        obtain ⟨B, hB⟩ : ∃ B, w.heap.size = B := ⟨_, rfl⟩
        rw [hB] at hbx hv ha
        have HB := Lib.hid hB; have HA2 := Lib.hid hA2; have HK := Lib.hid hk; have HV := Lib.hid hv; have HBX := Lib.hid hbx; have HL := Lib.hid hl48
        clear hB hA2 hk hv hbx hl48 hA
        go_enter Try.func45, Try.ntmps45
        go_wp2_with fail
        (try rw [HB.out])
        refine (rwfits_any t l 2 r x a v M _ HA2.out HL.out).mono ?_
        rw [HOK.out]
        rintro e w1 ⟨rfl, hk1⟩
        have hb1 := HBX.out.no hk1
        have hm1 := HA2.out.keep hk1 (fun f => f) (fun _ _ f => f)
        obtain ⟨⟨m0, m1, m2, m3, m4⟩, ⟨c0, c1, c2, c3, c4⟩, ⟨r0, r1, r2, r3, r4⟩, ⟨f0, f1, f2, f3, f4⟩, ⟨g0, g1, g2, g3, g4⟩, z1, z2⟩ := hb1.facts
        have HB1 := Lib.hid hb1; have HM1 := Lib.hid hm1; have HK1 := Lib.hid (HK.out.trans hk1)
        clear hb1 hm1
        go_upto_region 17 with (first
          | (go_at_call 24; refine (lock_lit 2 2 4 0 2 l 3 _ HRD.out _).mono ?_; rintro e w5 ⟨rfl, hk5⟩; clear m0 m1 m2 m3 m4 c0 c1 c2 c3 c4 r0 r1 r2 r3 r4 f0 f1 f2 f3 f4 g0 g1 g2 g3 g4 z1 z2; have hb5 := HB1.out.no hk5; have hm5 := HM1.out.keep hk5 (fun f => f) (fun _ _ f => f); obtain ⟨⟨m0, m1, m2, m3, m4⟩, ⟨c0, c1, c2, c3, c4⟩, ⟨r0, r1, r2, r3, r4⟩, ⟨f0, f1, f2, f3, f4⟩, ⟨g0, g1, g2, g3, g4⟩, z1, z2⟩ := hb5.facts; have HB5 := Lib.hid hb5; have HM5 := Lib.hid hm5; clear hb5 hm5)
          | (go_at_call 18; have hct := take8_yes t l 2 r x a v M _ ht hl HM5.out HL.out; rw [HD.out] at hct; unfold handV at hct; dsimp only at hct; refine hct.mono ?_; clear hct; rintro e w4 ⟨rfl, hm, hk4⟩; have hb4 := HB5.out.own hk4 ha HV.out; clear m0 m1 m2 m3 m4 c0 c1 c2 c3 c4 r0 r1 r2 r3 r4 f0 f1 f2 f3 f4 g0 g1 g2 g3 g4 z1 z2; obtain ⟨⟨m0, m1, m2, m3, m4⟩, ⟨c0, c1, c2, c3, c4⟩, ⟨r0, r1, r2, r3, r4⟩, ⟨f0, f1, f2, f3, f4⟩, ⟨g0, g1, g2, g3, g4⟩, z1, z2⟩ := hb4.facts; have HB4 := Lib.hid hb4; have hkk : Keeps (own2m a v) w w4 := (HK1.out.trans hk5).no.trans hk4; clear hb4))
        have hbN := HB4.out.h5 t l 9 r x1
        have hmN : MemAt (((((w4.setCell ⟨B + 1, 0, none⟩ (.int .i64 t)).setCell ⟨B + 1, 1, none⟩ (.int .i64 l)).setCell ⟨B + 1, 2, none⟩ (.int .i64 9)).setCell ⟨B + 1, 3, none⟩ (.bool r)).setCell ⟨B + 1, 4, none⟩ (.int .i64 x1)) a v M1 := by
          repeat (first | (with_reducible exact hm) | refine MemT.set (B := B) ?_ ha HV.out _ (by show B ≤ _; dsimp only; omega) _)
        have hkN : Keeps (own2m a v) w (((((w4.setCell ⟨B + 1, 0, none⟩ (.int .i64 t)).setCell ⟨B + 1, 1, none⟩ (.int .i64 l)).setCell ⟨B + 1, 2, none⟩ (.int .i64 9)).setCell ⟨B + 1, 3, none⟩ (.bool r)).setCell ⟨B + 1, 4, none⟩ (.int .i64 x1)) := by
          repeat (first | (with_reducible exact hkk) | refine kset HB.out ?_ _ (by show B ≤ _; dsimp only; omega) _)
        generalize (((((w4.setCell ⟨B + 1, 0, none⟩ (.int .i64 t)).setCell ⟨B + 1, 1, none⟩ (.int .i64 l)).setCell ⟨B + 1, 2, none⟩ (.int .i64 9)).setCell ⟨B + 1, 3, none⟩ (.bool r)).setCell ⟨B + 1, 4, none⟩ (.int .i64 x1)) = w6 at *
        clear hm hkk m0 m1 m2 m3 m4 c0 c1 c2 c3 c4 r0 r1 r2 r3 r4 f0 f1 f2 f3 f4 g0 g1 g2 g3 g4 z1 z2
        obtain ⟨⟨m0, m1, m2, m3, m4⟩, ⟨c0, c1, c2, c3, c4⟩, ⟨r0, r1, r2, r3, r4⟩, ⟨f0, f1, f2, f3, f4⟩, ⟨g0, g1, g2, g3, g4⟩, z1, z2⟩ := hbN.facts
        have HB6 := Lib.hid hbN; have HM6 := Lib.hid hmN; have HK6 := Lib.hid hkN
        have hm := hmN; have hkk := hkN
        clear hbN hmN hkN
        go_upto_region 29 with fail
        have hbN := HB6.out.st 10
        have hmN : MemAt (w6.setCell ⟨B + 1, 2, none⟩ (.int .i64 10)) a v M1 := by
          repeat (first | (with_reducible exact hm) | refine MemT.set (B := B) ?_ ha HV.out _ (by show B ≤ _; dsimp only; omega) _)
        have hkN : Keeps (own2m a v) w (w6.setCell ⟨B + 1, 2, none⟩ (.int .i64 10)) := by
          repeat (first | (with_reducible exact hkk) | refine kset HB.out ?_ _ (by show B ≤ _; dsimp only; omega) _)
        generalize (w6.setCell ⟨B + 1, 2, none⟩ (.int .i64 10)) = w7 at *
        clear hm hkk m0 m1 m2 m3 m4 c0 c1 c2 c3 c4 r0 r1 r2 r3 r4 f0 f1 f2 f3 f4 g0 g1 g2 g3 g4 z1 z2
        obtain ⟨⟨m0, m1, m2, m3, m4⟩, ⟨c0, c1, c2, c3, c4⟩, ⟨r0, r1, r2, r3, r4⟩, ⟨f0, f1, f2, f3, f4⟩, ⟨g0, g1, g2, g3, g4⟩, z1, z2⟩ := hbN.facts
        have HB7 := Lib.hid hbN; have HM7 := Lib.hid hmN; have HK7 := Lib.hid hkN
        have hm := hmN; have hkk := hkN
        clear hbN hmN hkN
        go_wp2_with fail
        refine bodyPost_ret (v := .agg #[.int .i64 t, .int .i64 l, .int .i64 10, .bool r, .int .i64 x1]) (by simp [results, Try.results45, go_sem, *]) rfl ⟨rfl, ?_, ?_⟩
        · repeat (first | (with_reducible exact hm) | refine MemT.set (B := B) ?_ ha HV.out _ (by show B ≤ _; dsimp only; omega) _)
        · repeat (first | (with_reducible exact hkk) | refine kset HB.out ?_ _ (by show B ≤ _; dsimp only; omega) _)
      · have hbx := bx_new w 2 2 4 0 2 t l 3 r x 24
        have hk : Keeps NoS w (((w.alloc (.cells #[.int .i64 2, .int .i64 2, .int .i64 4, .int .i64 0, .int .i64 2] 24)).alloc (.cells #[.int .i64 t, .int .i64 l, .int .i64 3, .bool r, .int .i64 x] 37)).alloc (.cells #[.int .i64 0, .int .i64 0, .int .i64 0, .bool false, .int .i64 0] 37)) := (((Keeps.refl NoS w).alloc _).alloc _).alloc _
        have ha := blk_lt hA.hd
        have hv : ∀ g, v.ownBlock = some g → g < w.heap.size := fun g hg => hA.own_lt hg
        have hA2 := hA.keep hk (fun f => f) (fun _ _ f => f)
        obtain ⟨B, hB⟩ : ∃ B, w.heap.size = B := ⟨_, rfl⟩
        rw [hB] at hbx hv ha
        have HB := Lib.hid hB; have HA2 := Lib.hid hA2; have HK := Lib.hid hk; have HV := Lib.hid hv; have HBX := Lib.hid hbx; have HL := Lib.hid hl48
        clear hB hA2 hk hv hbx hl48 hA
        go_enter Try.func45, Try.ntmps45
        go_wp2_with fail
        (try rw [HB.out])
        refine (rwfits_any t l 3 r x a v M _ HA2.out HL.out).mono ?_
        rw [HOK.out]
        rintro e w1 ⟨rfl, hk1⟩
        have hb1 := HBX.out.no hk1
        have hm1 := HA2.out.keep hk1 (fun f => f) (fun _ _ f => f)
        obtain ⟨⟨m0, m1, m2, m3, m4⟩, ⟨c0, c1, c2, c3, c4⟩, ⟨r0, r1, r2, r3, r4⟩, ⟨f0, f1, f2, f3, f4⟩, ⟨g0, g1, g2, g3, g4⟩, z1, z2⟩ := hb1.facts
        have HB1 := Lib.hid hb1; have HM1 := Lib.hid hm1; have HK1 := Lib.hid (HK.out.trans hk1)
        clear hb1 hm1
        go_upto_region 17 with (first
          | (go_at_call 24; refine (lock_lit 2 2 4 0 2 l 3 _ HRD.out _).mono ?_; rintro e w5 ⟨rfl, hk5⟩; clear m0 m1 m2 m3 m4 c0 c1 c2 c3 c4 r0 r1 r2 r3 r4 f0 f1 f2 f3 f4 g0 g1 g2 g3 g4 z1 z2; have hb5 := HB1.out.no hk5; have hm5 := HM1.out.keep hk5 (fun f => f) (fun _ _ f => f); obtain ⟨⟨m0, m1, m2, m3, m4⟩, ⟨c0, c1, c2, c3, c4⟩, ⟨r0, r1, r2, r3, r4⟩, ⟨f0, f1, f2, f3, f4⟩, ⟨g0, g1, g2, g3, g4⟩, z1, z2⟩ := hb5.facts; have HB5 := Lib.hid hb5; have HM5 := Lib.hid hm5; clear hb5 hm5)
          | (go_at_call 18; have hct := take8_yes t l 3 r x a v M _ ht hl HM5.out HL.out; rw [HD.out] at hct; unfold handV at hct; dsimp only at hct; refine hct.mono ?_; clear hct; rintro e w4 ⟨rfl, hm, hk4⟩; have hb4 := HB5.out.own hk4 ha HV.out; clear m0 m1 m2 m3 m4 c0 c1 c2 c3 c4 r0 r1 r2 r3 r4 f0 f1 f2 f3 f4 g0 g1 g2 g3 g4 z1 z2; obtain ⟨⟨m0, m1, m2, m3, m4⟩, ⟨c0, c1, c2, c3, c4⟩, ⟨r0, r1, r2, r3, r4⟩, ⟨f0, f1, f2, f3, f4⟩, ⟨g0, g1, g2, g3, g4⟩, z1, z2⟩ := hb4.facts; have HB4 := Lib.hid hb4; have hkk : Keeps (own2m a v) w w4 := (HK1.out.trans hk5).no.trans hk4; clear hb4))
        have hbN := HB4.out.h5 t l 9 r x1
        have hmN : MemAt (((((w4.setCell ⟨B + 1, 0, none⟩ (.int .i64 t)).setCell ⟨B + 1, 1, none⟩ (.int .i64 l)).setCell ⟨B + 1, 2, none⟩ (.int .i64 9)).setCell ⟨B + 1, 3, none⟩ (.bool r)).setCell ⟨B + 1, 4, none⟩ (.int .i64 x1)) a v M1 := by
          repeat (first | (with_reducible exact hm) | refine MemT.set (B := B) ?_ ha HV.out _ (by show B ≤ _; dsimp only; omega) _)
        have hkN : Keeps (own2m a v) w (((((w4.setCell ⟨B + 1, 0, none⟩ (.int .i64 t)).setCell ⟨B + 1, 1, none⟩ (.int .i64 l)).setCell ⟨B + 1, 2, none⟩ (.int .i64 9)).setCell ⟨B + 1, 3, none⟩ (.bool r)).setCell ⟨B + 1, 4, none⟩ (.int .i64 x1)) := by
          repeat (first | (with_reducible exact hkk) | refine kset HB.out ?_ _ (by show B ≤ _; dsimp only; omega) _)
        generalize (((((w4.setCell ⟨B + 1, 0, none⟩ (.int .i64 t)).setCell ⟨B + 1, 1, none⟩ (.int .i64 l)).setCell ⟨B + 1, 2, none⟩ (.int .i64 9)).setCell ⟨B + 1, 3, none⟩ (.bool r)).setCell ⟨B + 1, 4, none⟩ (.int .i64 x1)) = w6 at *
        clear hm hkk m0 m1 m2 m3 m4 c0 c1 c2 c3 c4 r0 r1 r2 r3 r4 f0 f1 f2 f3 f4 g0 g1 g2 g3 g4 z1 z2
        obtain ⟨⟨m0, m1, m2, m3, m4⟩, ⟨c0, c1, c2, c3, c4⟩, ⟨r0, r1, r2, r3, r4⟩, ⟨f0, f1, f2, f3, f4⟩, ⟨g0, g1, g2, g3, g4⟩, z1, z2⟩ := hbN.facts
        have HB6 := Lib.hid hbN; have HM6 := Lib.hid hmN; have HK6 := Lib.hid hkN
        have hm := hmN; have hkk := hkN
        clear hbN hmN hkN
        go_upto_region 29 with fail
        have hbN := HB6.out.st 10
        have hmN : MemAt (w6.setCell ⟨B + 1, 2, none⟩ (.int .i64 10)) a v M1 := by
          repeat (first | (with_reducible exact hm) | refine MemT.set (B := B) ?_ ha HV.out _ (by show B ≤ _; dsimp only; omega) _)
        have hkN : Keeps (own2m a v) w (w6.setCell ⟨B + 1, 2, none⟩ (.int .i64 10)) := by
          repeat (first | (with_reducible exact hkk) | refine kset HB.out ?_ _ (by show B ≤ _; dsimp only; omega) _)
        generalize (w6.setCell ⟨B + 1, 2, none⟩ (.int .i64 10)) = w7 at *
        clear hm hkk m0 m1 m2 m3 m4 c0 c1 c2 c3 c4 r0 r1 r2 r3 r4 f0 f1 f2 f3 f4 g0 g1 g2 g3 g4 z1 z2
        obtain ⟨⟨m0, m1, m2, m3, m4⟩, ⟨c0, c1, c2, c3, c4⟩, ⟨r0, r1, r2, r3, r4⟩, ⟨f0, f1, f2, f3, f4⟩, ⟨g0, g1, g2, g3, g4⟩, z1, z2⟩ := hbN.facts
        have HB7 := Lib.hid hbN; have HM7 := Lib.hid hmN; have HK7 := Lib.hid hkN
        have hm := hmN; have hkk := hkN
        clear hbN hmN hkN
        go_wp2_with fail
        refine bodyPost_ret (v := .agg #[.int .i64 t, .int .i64 l, .int .i64 10, .bool r, .int .i64 x1]) (by simp [results, Try.results45, go_sem, *]) rfl ⟨rfl, ?_, ?_⟩
        · repeat (first | (with_reducible exact hm) | refine MemT.set (B := B) ?_ ha HV.out _ (by show B ≤ _; dsimp only; omega) _)
        · repeat (first | (with_reducible exact hkk) | refine kset HB.out ?_ _ (by show B ≤ _; dsimp only; omega) _)
      · have hbx := bx_new w 2 2 4 0 2 t l 4 r x 24
        have hk : Keeps NoS w (((w.alloc (.cells #[.int .i64 2, .int .i64 2, .int .i64 4, .int .i64 0, .int .i64 2] 24)).alloc (.cells #[.int .i64 t, .int .i64 l, .int .i64 4, .bool r, .int .i64 x] 37)).alloc (.cells #[.int .i64 0, .int .i64 0, .int .i64 0, .bool false, .int .i64 0] 37)) := (((Keeps.refl NoS w).alloc _).alloc _).alloc _
        have ha := blk_lt hA.hd
        have hv : ∀ g, v.ownBlock = some g → g < w.heap.size := fun g hg => hA.own_lt hg
        have hA2 := hA.keep hk (fun f => f) (fun _ _ f => f)
        obtain ⟨B, hB⟩ : ∃ B, w.heap.size = B := ⟨_, rfl⟩
        rw [hB] at hbx hv ha
        have HB := Lib.hid hB; have HA2 := Lib.hid hA2; have HK := Lib.hid hk; have HV := Lib.hid hv; have HBX := Lib.hid hbx; have HL := Lib.hid hl48
        clear hB hA2 hk hv hbx hl48 hA
        go_enter Try.func45, Try.ntmps45
        go_wp2_with fail
        (try rw [HB.out])
        refine (rwfits_any t l 4 r x a v M _ HA2.out HL.out).mono ?_
        rw [HOK.out]
        rintro e w1 ⟨rfl, hk1⟩
        have hb1 := HBX.out.no hk1
        have hm1 := HA2.out.keep hk1 (fun f => f) (fun _ _ f => f)
        obtain ⟨⟨m0, m1, m2, m3, m4⟩, ⟨c0, c1, c2, c3, c4⟩, ⟨r0, r1, r2, r3, r4⟩, ⟨f0, f1, f2, f3, f4⟩, ⟨g0, g1, g2, g3, g4⟩, z1, z2⟩ := hb1.facts
        have HB1 := Lib.hid hb1; have HM1 := Lib.hid hm1; have HK1 := Lib.hid (HK.out.trans hk1)
        clear hb1 hm1
        go_upto_region 17 with (first
          | (go_at_call 24; refine (lock_lit 2 2 4 0 2 l 3 _ HRD.out _).mono ?_; rintro e w5 ⟨rfl, hk5⟩; clear m0 m1 m2 m3 m4 c0 c1 c2 c3 c4 r0 r1 r2 r3 r4 f0 f1 f2 f3 f4 g0 g1 g2 g3 g4 z1 z2; have hb5 := HB1.out.no hk5; have hm5 := HM1.out.keep hk5 (fun f => f) (fun _ _ f => f); obtain ⟨⟨m0, m1, m2, m3, m4⟩, ⟨c0, c1, c2, c3, c4⟩, ⟨r0, r1, r2, r3, r4⟩, ⟨f0, f1, f2, f3, f4⟩, ⟨g0, g1, g2, g3, g4⟩, z1, z2⟩ := hb5.facts; have HB5 := Lib.hid hb5; have HM5 := Lib.hid hm5; clear hb5 hm5)
          | (go_at_call 18; have hct := take8_yes t l 4 r x a v M _ ht hl HM5.out HL.out; rw [HD.out] at hct; unfold handV at hct; dsimp only at hct; refine hct.mono ?_; clear hct; rintro e w4 ⟨rfl, hm, hk4⟩; have hb4 := HB5.out.own hk4 ha HV.out; clear m0 m1 m2 m3 m4 c0 c1 c2 c3 c4 r0 r1 r2 r3 r4 f0 f1 f2 f3 f4 g0 g1 g2 g3 g4 z1 z2; obtain ⟨⟨m0, m1, m2, m3, m4⟩, ⟨c0, c1, c2, c3, c4⟩, ⟨r0, r1, r2, r3, r4⟩, ⟨f0, f1, f2, f3, f4⟩, ⟨g0, g1, g2, g3, g4⟩, z1, z2⟩ := hb4.facts; have HB4 := Lib.hid hb4; have hkk : Keeps (own2m a v) w w4 := (HK1.out.trans hk5).no.trans hk4; clear hb4))
        have hbN := HB4.out.h5 t l 9 r x1
        have hmN : MemAt (((((w4.setCell ⟨B + 1, 0, none⟩ (.int .i64 t)).setCell ⟨B + 1, 1, none⟩ (.int .i64 l)).setCell ⟨B + 1, 2, none⟩ (.int .i64 9)).setCell ⟨B + 1, 3, none⟩ (.bool r)).setCell ⟨B + 1, 4, none⟩ (.int .i64 x1)) a v M1 := by
          repeat (first | (with_reducible exact hm) | refine MemT.set (B := B) ?_ ha HV.out _ (by show B ≤ _; dsimp only; omega) _)
        have hkN : Keeps (own2m a v) w (((((w4.setCell ⟨B + 1, 0, none⟩ (.int .i64 t)).setCell ⟨B + 1, 1, none⟩ (.int .i64 l)).setCell ⟨B + 1, 2, none⟩ (.int .i64 9)).setCell ⟨B + 1, 3, none⟩ (.bool r)).setCell ⟨B + 1, 4, none⟩ (.int .i64 x1)) := by
          repeat (first | (with_reducible exact hkk) | refine kset HB.out ?_ _ (by show B ≤ _; dsimp only; omega) _)
        generalize (((((w4.setCell ⟨B + 1, 0, none⟩ (.int .i64 t)).setCell ⟨B + 1, 1, none⟩ (.int .i64 l)).setCell ⟨B + 1, 2, none⟩ (.int .i64 9)).setCell ⟨B + 1, 3, none⟩ (.bool r)).setCell ⟨B + 1, 4, none⟩ (.int .i64 x1)) = w6 at *
        clear hm hkk m0 m1 m2 m3 m4 c0 c1 c2 c3 c4 r0 r1 r2 r3 r4 f0 f1 f2 f3 f4 g0 g1 g2 g3 g4 z1 z2
        obtain ⟨⟨m0, m1, m2, m3, m4⟩, ⟨c0, c1, c2, c3, c4⟩, ⟨r0, r1, r2, r3, r4⟩, ⟨f0, f1, f2, f3, f4⟩, ⟨g0, g1, g2, g3, g4⟩, z1, z2⟩ := hbN.facts
        have HB6 := Lib.hid hbN; have HM6 := Lib.hid hmN; have HK6 := Lib.hid hkN
        have hm := hmN; have hkk := hkN
        clear hbN hmN hkN
        go_upto_region 29 with fail
        have hbN := HB6.out.st 10
        have hmN : MemAt (w6.setCell ⟨B + 1, 2, none⟩ (.int .i64 10)) a v M1 := by
          repeat (first | (with_reducible exact hm) | refine MemT.set (B := B) ?_ ha HV.out _ (by show B ≤ _; dsimp only; omega) _)
        have hkN : Keeps (own2m a v) w (w6.setCell ⟨B + 1, 2, none⟩ (.int .i64 10)) := by
          repeat (first | (with_reducible exact hkk) | refine kset HB.out ?_ _ (by show B ≤ _; dsimp only; omega) _)
        generalize (w6.setCell ⟨B + 1, 2, none⟩ (.int .i64 10)) = w7 at *
        clear hm hkk m0 m1 m2 m3 m4 c0 c1 c2 c3 c4 r0 r1 r2 r3 r4 f0 f1 f2 f3 f4 g0 g1 g2 g3 g4 z1 z2
        obtain ⟨⟨m0, m1, m2, m3, m4⟩, ⟨c0, c1, c2, c3, c4⟩, ⟨r0, r1, r2, r3, r4⟩, ⟨f0, f1, f2, f3, f4⟩, ⟨g0, g1, g2, g3, g4⟩, z1, z2⟩ := hbN.facts
        have HB7 := Lib.hid hbN; have HM7 := Lib.hid hmN; have HK7 := Lib.hid hkN
        have hm := hmN; have hkk := hkN
        clear hbN hmN hkN
        go_wp2_with fail
        refine bodyPost_ret (v := .agg #[.int .i64 t, .int .i64 l, .int .i64 10, .bool r, .int .i64 x1]) (by simp [results, Try.results45, go_sem, *]) rfl ⟨rfl, ?_, ?_⟩
        · repeat (first | (with_reducible exact hm) | refine MemT.set (B := B) ?_ ha HV.out _ (by show B ≤ _; dsimp only; omega) _)
        · repeat (first | (with_reducible exact hkk) | refine kset HB.out ?_ _ (by show B ≤ _; dsimp only; omega) _)
      · have hbx := bx_new w 2 2 4 0 2 t l 5 r x 24
        have hk : Keeps NoS w (((w.alloc (.cells #[.int .i64 2, .int .i64 2, .int .i64 4, .int .i64 0, .int .i64 2] 24)).alloc (.cells #[.int .i64 t, .int .i64 l, .int .i64 5, .bool r, .int .i64 x] 37)).alloc (.cells #[.int .i64 0, .int .i64 0, .int .i64 0, .bool false, .int .i64 0] 37)) := (((Keeps.refl NoS w).alloc _).alloc _).alloc _
        have ha := blk_lt hA.hd
        have hv : ∀ g, v.ownBlock = some g → g < w.heap.size := fun g hg => hA.own_lt hg
        have hA2 := hA.keep hk (fun f => f) (fun _ _ f => f)
        obtain ⟨B, hB⟩ : ∃ B, w.heap.size = B := ⟨_, rfl⟩
        rw [hB] at hbx hv ha
        have HB := Lib.hid hB; have HA2 := Lib.hid hA2; have HK := Lib.hid hk; have HV := Lib.hid hv; have HBX := Lib.hid hbx; have HL := Lib.hid hl48
        clear hB hA2 hk hv hbx hl48 hA
        go_enter Try.func45, Try.ntmps45
        go_wp2_with fail
        (try rw [HB.out])
        refine (rwfits_any t l 5 r x a v M _ HA2.out HL.out).mono ?_
        rw [HOK.out]
        rintro e w1 ⟨rfl, hk1⟩
        have hb1 := HBX.out.no hk1
        have hm1 := HA2.out.keep hk1 (fun f => f) (fun _ _ f => f)
        obtain ⟨⟨m0, m1, m2, m3, m4⟩, ⟨c0, c1, c2, c3, c4⟩, ⟨r0, r1, r2, r3, r4⟩, ⟨f0, f1, f2, f3, f4⟩, ⟨g0, g1, g2, g3, g4⟩, z1, z2⟩ := hb1.facts
        have HB1 := Lib.hid hb1; have HM1 := Lib.hid hm1; have HK1 := Lib.hid (HK.out.trans hk1)
        clear hb1 hm1
        go_upto_region 17 with (first
          | (go_at_call 24; refine (lock_lit 2 2 4 0 2 l 3 _ HRD.out _).mono ?_; rintro e w5 ⟨rfl, hk5⟩; clear m0 m1 m2 m3 m4 c0 c1 c2 c3 c4 r0 r1 r2 r3 r4 f0 f1 f2 f3 f4 g0 g1 g2 g3 g4 z1 z2; have hb5 := HB1.out.no hk5; have hm5 := HM1.out.keep hk5 (fun f => f) (fun _ _ f => f); obtain ⟨⟨m0, m1, m2, m3, m4⟩, ⟨c0, c1, c2, c3, c4⟩, ⟨r0, r1, r2, r3, r4⟩, ⟨f0, f1, f2, f3, f4⟩, ⟨g0, g1, g2, g3, g4⟩, z1, z2⟩ := hb5.facts; have HB5 := Lib.hid hb5; have HM5 := Lib.hid hm5; clear hb5 hm5)
          | (go_at_call 18; have hct := take8_yes t l 5 r x a v M _ ht hl HM5.out HL.out; rw [HD.out] at hct; unfold handV at hct; dsimp only at hct; refine hct.mono ?_; clear hct; rintro e w4 ⟨rfl, hm, hk4⟩; have hb4 := HB5.out.own hk4 ha HV.out; clear m0 m1 m2 m3 m4 c0 c1 c2 c3 c4 r0 r1 r2 r3 r4 f0 f1 f2 f3 f4 g0 g1 g2 g3 g4 z1 z2; obtain ⟨⟨m0, m1, m2, m3, m4⟩, ⟨c0, c1, c2, c3, c4⟩, ⟨r0, r1, r2, r3, r4⟩, ⟨f0, f1, f2, f3, f4⟩, ⟨g0, g1, g2, g3, g4⟩, z1, z2⟩ := hb4.facts; have HB4 := Lib.hid hb4; have hkk : Keeps (own2m a v) w w4 := (HK1.out.trans hk5).no.trans hk4; clear hb4))
        have hbN := HB4.out.h5 t l 9 r x1
        have hmN : MemAt (((((w4.setCell ⟨B + 1, 0, none⟩ (.int .i64 t)).setCell ⟨B + 1, 1, none⟩ (.int .i64 l)).setCell ⟨B + 1, 2, none⟩ (.int .i64 9)).setCell ⟨B + 1, 3, none⟩ (.bool r)).setCell ⟨B + 1, 4, none⟩ (.int .i64 x1)) a v M1 := by
          repeat (first | (with_reducible exact hm) | refine MemT.set (B := B) ?_ ha HV.out _ (by show B ≤ _; dsimp only; omega) _)
        have hkN : Keeps (own2m a v) w (((((w4.setCell ⟨B + 1, 0, none⟩ (.int .i64 t)).setCell ⟨B + 1, 1, none⟩ (.int .i64 l)).setCell ⟨B + 1, 2, none⟩ (.int .i64 9)).setCell ⟨B + 1, 3, none⟩ (.bool r)).setCell ⟨B + 1, 4, none⟩ (.int .i64 x1)) := by
          repeat (first | (with_reducible exact hkk) | refine kset HB.out ?_ _ (by show B ≤ _; dsimp only; omega) _)
        generalize (((((w4.setCell ⟨B + 1, 0, none⟩ (.int .i64 t)).setCell ⟨B + 1, 1, none⟩ (.int .i64 l)).setCell ⟨B + 1, 2, none⟩ (.int .i64 9)).setCell ⟨B + 1, 3, none⟩ (.bool r)).setCell ⟨B + 1, 4, none⟩ (.int .i64 x1)) = w6 at *
        clear hm hkk m0 m1 m2 m3 m4 c0 c1 c2 c3 c4 r0 r1 r2 r3 r4 f0 f1 f2 f3 f4 g0 g1 g2 g3 g4 z1 z2
        obtain ⟨⟨m0, m1, m2, m3, m4⟩, ⟨c0, c1, c2, c3, c4⟩, ⟨r0, r1, r2, r3, r4⟩, ⟨f0, f1, f2, f3, f4⟩, ⟨g0, g1, g2, g3, g4⟩, z1, z2⟩ := hbN.facts
        have HB6 := Lib.hid hbN; have HM6 := Lib.hid hmN; have HK6 := Lib.hid hkN
        have hm := hmN; have hkk := hkN
        clear hbN hmN hkN
        go_upto_region 29 with fail
        have hbN := HB6.out.st 10
        have hmN : MemAt (w6.setCell ⟨B + 1, 2, none⟩ (.int .i64 10)) a v M1 := by
          repeat (first | (with_reducible exact hm) | refine MemT.set (B := B) ?_ ha HV.out _ (by show B ≤ _; dsimp only; omega) _)
        have hkN : Keeps (own2m a v) w (w6.setCell ⟨B + 1, 2, none⟩ (.int .i64 10)) := by
          repeat (first | (with_reducible exact hkk) | refine kset HB.out ?_ _ (by show B ≤ _; dsimp only; omega) _)
        generalize (w6.setCell ⟨B + 1, 2, none⟩ (.int .i64 10)) = w7 at *
        clear hm hkk m0 m1 m2 m3 m4 c0 c1 c2 c3 c4 r0 r1 r2 r3 r4 f0 f1 f2 f3 f4 g0 g1 g2 g3 g4 z1 z2
        obtain ⟨⟨m0, m1, m2, m3, m4⟩, ⟨c0, c1, c2, c3, c4⟩, ⟨r0, r1, r2, r3, r4⟩, ⟨f0, f1, f2, f3, f4⟩, ⟨g0, g1, g2, g3, g4⟩, z1, z2⟩ := hbN.facts
        have HB7 := Lib.hid hbN; have HM7 := Lib.hid hmN; have HK7 := Lib.hid hkN
        have hm := hmN; have hkk := hkN
        clear hbN hmN hkN
        go_wp2_with fail
        refine bodyPost_ret (v := .agg #[.int .i64 t, .int .i64 l, .int .i64 10, .bool r, .int .i64 x1]) (by simp [results, Try.results45, go_sem, *]) rfl ⟨rfl, ?_, ?_⟩
        · repeat (first | (with_reducible exact hm) | refine MemT.set (B := B) ?_ ha HV.out _ (by show B ≤ _; dsimp only; omega) _)
        · repeat (first | (with_reducible exact hkk) | refine kset HB.out ?_ _ (by show B ≤ _; dsimp only; omega) _)
    · rw [if_neg h9]
      have h9' : (s1 == 9) = false := by simpa using h9
      have hs : s = 0 ∨ s = 1 ∨ s = 2 ∨ s = 3 ∨ s = 4 ∨ s = 5 := by omega
      clear hs05 h9
      rcases hs with rfl | rfl | rfl | rfl | rfl | rfl
      · have hbx := bx_new w 2 2 4 0 2 t l 0 r x 24
        have hk : Keeps NoS w (((w.alloc (.cells #[.int .i64 2, .int .i64 2, .int .i64 4, .int .i64 0, .int .i64 2] 24)).alloc (.cells #[.int .i64 t, .int .i64 l, .int .i64 0, .bool r, .int .i64 x] 37)).alloc (.cells #[.int .i64 0, .int .i64 0, .int .i64 0, .bool false, .int .i64 0] 37)) := (((Keeps.refl NoS w).alloc _).alloc _).alloc _
        have ha := blk_lt hA.hd
        have hv : ∀ g, v.ownBlock = some g → g < w.heap.size := fun g hg => hA.own_lt hg
        have hA2 := hA.keep hk (fun f => f) (fun _ _ f => f)
        obtain ⟨B, hB⟩ : ∃ B, w.heap.size = B := ⟨_, rfl⟩
        rw [hB] at hbx hv ha
        have HB := Lib.hid hB; have HA2 := Lib.hid hA2; have HK := Lib.hid hk; have HV := Lib.hid hv; have HBX := Lib.hid hbx; have HL := Lib.hid hl48
        clear hB hA2 hk hv hbx hl48 hA
        go_enter Try.func45, Try.ntmps45
        go_wp2_with fail
        (try rw [HB.out])
        refine (rwfits_any t l 0 r x a v M _ HA2.out HL.out).mono ?_
        rw [HOK.out]
        rintro e w1 ⟨rfl, hk1⟩
        have hb1 := HBX.out.no hk1
        have hm1 := HA2.out.keep hk1 (fun f => f) (fun _ _ f => f)
        obtain ⟨⟨m0, m1, m2, m3, m4⟩, ⟨c0, c1, c2, c3, c4⟩, ⟨r0, r1, r2, r3, r4⟩, ⟨f0, f1, f2, f3, f4⟩, ⟨g0, g1, g2, g3, g4⟩, z1, z2⟩ := hb1.facts
        have HB1 := Lib.hid hb1; have HM1 := Lib.hid hm1; have HK1 := Lib.hid (HK.out.trans hk1)
        clear hb1 hm1
        go_upto_region 17 with (first
          | (go_at_call 24; refine (lock_lit 2 2 4 0 2 l 3 _ HRD.out _).mono ?_; rintro e w5 ⟨rfl, hk5⟩; clear m0 m1 m2 m3 m4 c0 c1 c2 c3 c4 r0 r1 r2 r3 r4 f0 f1 f2 f3 f4 g0 g1 g2 g3 g4 z1 z2; have hb5 := HB1.out.no hk5; have hm5 := HM1.out.keep hk5 (fun f => f) (fun _ _ f => f); obtain ⟨⟨m0, m1, m2, m3, m4⟩, ⟨c0, c1, c2, c3, c4⟩, ⟨r0, r1, r2, r3, r4⟩, ⟨f0, f1, f2, f3, f4⟩, ⟨g0, g1, g2, g3, g4⟩, z1, z2⟩ := hb5.facts; have HB5 := Lib.hid hb5; have HM5 := Lib.hid hm5; clear hb5 hm5)
          | (go_at_call 18; have hct := take8_yes t l 0 r x a v M _ ht hl HM5.out HL.out; rw [HD.out] at hct; unfold handV at hct; dsimp only at hct; refine hct.mono ?_; clear hct; rintro e w4 ⟨rfl, hm, hk4⟩; have hb4 := HB5.out.own hk4 ha HV.out; clear m0 m1 m2 m3 m4 c0 c1 c2 c3 c4 r0 r1 r2 r3 r4 f0 f1 f2 f3 f4 g0 g1 g2 g3 g4 z1 z2; obtain ⟨⟨m0, m1, m2, m3, m4⟩, ⟨c0, c1, c2, c3, c4⟩, ⟨r0, r1, r2, r3, r4⟩, ⟨f0, f1, f2, f3, f4⟩, ⟨g0, g1, g2, g3, g4⟩, z1, z2⟩ := hb4.facts; have HB4 := Lib.hid hb4; have hkk : Keeps (own2m a v) w w4 := (HK1.out.trans hk5).no.trans hk4; clear hb4))
        have hbN := HB4.out.h5 t l s1 r x1
        have hmN : MemAt (((((w4.setCell ⟨B + 1, 0, none⟩ (.int .i64 t)).setCell ⟨B + 1, 1, none⟩ (.int .i64 l)).setCell ⟨B + 1, 2, none⟩ (.int .i64 s1)).setCell ⟨B + 1, 3, none⟩ (.bool r)).setCell ⟨B + 1, 4, none⟩ (.int .i64 x1)) a v M1 := by
          repeat (first | (with_reducible exact hm) | refine MemT.set (B := B) ?_ ha HV.out _ (by show B ≤ _; dsimp only; omega) _)
        have hkN : Keeps (own2m a v) w (((((w4.setCell ⟨B + 1, 0, none⟩ (.int .i64 t)).setCell ⟨B + 1, 1, none⟩ (.int .i64 l)).setCell ⟨B + 1, 2, none⟩ (.int .i64 s1)).setCell ⟨B + 1, 3, none⟩ (.bool r)).setCell ⟨B + 1, 4, none⟩ (.int .i64 x1)) := by
          repeat (first | (with_reducible exact hkk) | refine kset HB.out ?_ _ (by show B ≤ _; dsimp only; omega) _)
        generalize (((((w4.setCell ⟨B + 1, 0, none⟩ (.int .i64 t)).setCell ⟨B + 1, 1, none⟩ (.int .i64 l)).setCell ⟨B + 1, 2, none⟩ (.int .i64 s1)).setCell ⟨B + 1, 3, none⟩ (.bool r)).setCell ⟨B + 1, 4, none⟩ (.int .i64 x1)) = w6 at *
        clear hm hkk m0 m1 m2 m3 m4 c0 c1 c2 c3 c4 r0 r1 r2 r3 r4 f0 f1 f2 f3 f4 g0 g1 g2 g3 g4 z1 z2
        obtain ⟨⟨m0, m1, m2, m3, m4⟩, ⟨c0, c1, c2, c3, c4⟩, ⟨r0, r1, r2, r3, r4⟩, ⟨f0, f1, f2, f3, f4⟩, ⟨g0, g1, g2, g3, g4⟩, z1, z2⟩ := hbN.facts
        have HB6 := Lib.hid hbN; have HM6 := Lib.hid hmN; have HK6 := Lib.hid hkN
        have hm := hmN; have hkk := hkN
        clear hbN hmN hkN
        go_wp2_with fail
        refine bodyPost_ret (v := .agg #[.int .i64 t, .int .i64 l, .int .i64 s1, .bool r, .int .i64 x1]) (by simp [results, Try.results45, go_sem, *]) rfl ⟨rfl, ?_, ?_⟩
        · repeat (first | (with_reducible exact hm) | refine MemT.set (B := B) ?_ ha HV.out _ (by show B ≤ _; dsimp only; omega) _)
        · repeat (first | (with_reducible exact hkk) | refine kset HB.out ?_ _ (by show B ≤ _; dsimp only; omega) _)
      · have hbx := bx_new w 2 2 4 0 2 t l 1 r x 24
        have hk : Keeps NoS w (((w.alloc (.cells #[.int .i64 2, .int .i64 2, .int .i64 4, .int .i64 0, .int .i64 2] 24)).alloc (.cells #[.int .i64 t, .int .i64 l, .int .i64 1, .bool r, .int .i64 x] 37)).alloc (.cells #[.int .i64 0, .int .i64 0, .int .i64 0, .bool false, .int .i64 0] 37)) := (((Keeps.refl NoS w).alloc _).alloc _).alloc _
        have ha := blk_lt hA.hd
        have hv : ∀ g, v.ownBlock = some g → g < w.heap.size := fun g hg => hA.own_lt hg
        have hA2 := hA.keep hk (fun f => f) (fun _ _ f => f)
        obtain ⟨B, hB⟩ : ∃ B, w.heap.size = B := ⟨_, rfl⟩
        rw [hB] at hbx hv ha
        have HB := Lib.hid hB; have HA2 := Lib.hid hA2; have HK := Lib.hid hk; have HV := Lib.hid hv; have HBX := Lib.hid hbx; have HL := Lib.hid hl48
        clear hB hA2 hk hv hbx hl48 hA
        go_enter Try.func45, Try.ntmps45
        go_wp2_with fail
        (try rw [HB.out])
        refine (rwfits_any t l 1 r x a v M _ HA2.out HL.out).mono ?_
        rw [HOK.out]
        rintro e w1 ⟨rfl, hk1⟩
        have hb1 := HBX.out.no hk1
        have hm1 := HA2.out.keep hk1 (fun f => f) (fun _ _ f => f)
        obtain ⟨⟨m0, m1, m2, m3, m4⟩, ⟨c0, c1, c2, c3, c4⟩, ⟨r0, r1, r2, r3, r4⟩, ⟨f0, f1, f2, f3, f4⟩, ⟨g0, g1, g2, g3, g4⟩, z1, z2⟩ := hb1.facts
        have HB1 := Lib.hid hb1; have HM1 := Lib.hid hm1; have HK1 := Lib.hid (HK.out.trans hk1)
        clear hb1 hm1
        go_upto_region 17 with (first
          | (go_at_call 24; refine (lock_lit 2 2 4 0 2 l 3 _ HRD.out _).mono ?_; rintro e w5 ⟨rfl, hk5⟩; clear m0 m1 m2 m3 m4 c0 c1 c2 c3 c4 r0 r1 r2 r3 r4 f0 f1 f2 f3 f4 g0 g1 g2 g3 g4 z1 z2; have hb5 := HB1.out.no hk5; have hm5 := HM1.out.keep hk5 (fun f => f) (fun _ _ f => f); obtain ⟨⟨m0, m1, m2, m3, m4⟩, ⟨c0, c1, c2, c3, c4⟩, ⟨r0, r1, r2, r3, r4⟩, ⟨f0, f1, f2, f3, f4⟩, ⟨g0, g1, g2, g3, g4⟩, z1, z2⟩ := hb5.facts; have HB5 := Lib.hid hb5; have HM5 := Lib.hid hm5; clear hb5 hm5)
          | (go_at_call 18; have hct := take8_yes t l 1 r x a v M _ ht hl HM5.out HL.out; rw [HD.out] at hct; unfold handV at hct; dsimp only at hct; refine hct.mono ?_; clear hct; rintro e w4 ⟨rfl, hm, hk4⟩; have hb4 := HB5.out.own hk4 ha HV.out; clear m0 m1 m2 m3 m4 c0 c1 c2 c3 c4 r0 r1 r2 r3 r4 f0 f1 f2 f3 f4 g0 g1 g2 g3 g4 z1 z2; obtain ⟨⟨m0, m1, m2, m3, m4⟩, ⟨c0, c1, c2, c3, c4⟩, ⟨r0, r1, r2, r3, r4⟩, ⟨f0, f1, f2, f3, f4⟩, ⟨g0, g1, g2, g3, g4⟩, z1, z2⟩ := hb4.facts; have HB4 := Lib.hid hb4; have hkk : Keeps (own2m a v) w w4 := (HK1.out.trans hk5).no.trans hk4; clear hb4))
        have hbN := HB4.out.h5 t l s1 r x1
        have hmN : MemAt (((((w4.setCell ⟨B + 1, 0, none⟩ (.int .i64 t)).setCell ⟨B + 1, 1, none⟩ (.int .i64 l)).setCell ⟨B + 1, 2, none⟩ (.int .i64 s1)).setCell ⟨B + 1, 3, none⟩ (.bool r)).setCell ⟨B + 1, 4, none⟩ (.int .i64 x1)) a v M1 := by
          repeat (first | (with_reducible exact hm) | refine MemT.set (B := B) ?_ ha HV.out _ (by show B ≤ _; dsimp only; omega) _)
        have hkN : Keeps (own2m a v) w (((((w4.setCell ⟨B + 1, 0, none⟩ (.int .i64 t)).setCell ⟨B + 1, 1, none⟩ (.int .i64 l)).setCell ⟨B + 1, 2, none⟩ (.int .i64 s1)).setCell ⟨B + 1, 3, none⟩ (.bool r)).setCell ⟨B + 1, 4, none⟩ (.int .i64 x1)) := by
          repeat (first | (with_reducible exact hkk) | refine kset HB.out ?_ _ (by show B ≤ _; dsimp only; omega) _)
        generalize (((((w4.setCell ⟨B + 1, 0, none⟩ (.int .i64 t)).setCell ⟨B + 1, 1, none⟩ (.int .i64 l)).setCell ⟨B + 1, 2, none⟩ (.int .i64 s1)).setCell ⟨B + 1, 3, none⟩ (.bool r)).setCell ⟨B + 1, 4, none⟩ (.int .i64 x1)) = w6 at *
        clear hm hkk m0 m1 m2 m3 m4 c0 c1 c2 c3 c4 r0 r1 r2 r3 r4 f0 f1 f2 f3 f4 g0 g1 g2 g3 g4 z1 z2
        obtain ⟨⟨m0, m1, m2, m3, m4⟩, ⟨c0, c1, c2, c3, c4⟩, ⟨r0, r1, r2, r3, r4⟩, ⟨f0, f1, f2, f3, f4⟩, ⟨g0, g1, g2, g3, g4⟩, z1, z2⟩ := hbN.facts
        have HB6 := Lib.hid hbN; have HM6 := Lib.hid hmN; have HK6 := Lib.hid hkN
        have hm := hmN; have hkk := hkN
        clear hbN hmN hkN
        go_wp2_with fail
        refine bodyPost_ret (v := .agg #[.int .i64 t, .int .i64 l, .int .i64 s1, .bool r, .int .i64 x1]) (by simp [results, Try.results45, go_sem, *]) rfl ⟨rfl, ?_, ?_⟩
        · repeat (first | (with_reducible exact hm) | refine MemT.set (B := B) ?_ ha HV.out _ (by show B ≤ _; dsimp only; omega) _)
        · repeat (first | (with_reducible exact hkk) | refine kset HB.out ?_ _ (by show B ≤ _; dsimp only; omega) _)
      · have hbx := bx_new w 2 2 4 0 2 t l 2 r x 24
        have hk : Keeps NoS w (((w.alloc (.cells #[.int .i64 2, .int .i64 2, .int .i64 4, .int .i64 0, .int .i64 2] 24)).alloc (.cells #[.int .i64 t, .int .i64 l, .int .i64 2, .bool r, .int .i64 x] 37)).alloc (.cells #[.int .i64 0, .int .i64 0, .int .i64 0, .bool false, .int .i64 0] 37)) := (((Keeps.refl NoS w).alloc _).alloc _).alloc _
        have ha := blk_lt hA.hd
        have hv : ∀ g, v.ownBlock = some g → g < w.heap.size := fun g hg => hA.own_lt hg
        have hA2 := hA.keep hk (fun f => f) (fun _ _ f => f)
        obtain ⟨B, hB⟩ : ∃ B, w.heap.size = B := ⟨_, rfl⟩
        rw [hB] at hbx hv ha
        have HB := Lib.hid hB; have HA2 := Lib.hid hA2; have HK := Lib.hid hk; have HV := Lib.hid hv; have HBX := Lib.hid hbx; have HL := Lib.hid hl48
        clear hB hA2 hk hv hbx hl48 hA
        go_enter Try.func45, Try.ntmps45
        go_wp2_with fail
        (try rw [HB.out])
        refine (rwfits_any t l 2 r x a v M _ HA2.out HL.out).mono ?_
        rw [HOK.out]
        rintro e w1 ⟨rfl, hk1⟩
        have hb1 := HBX.out.no hk1
        have hm1 := HA2.out.keep hk1 (fun f => f) (fun _ _ f => f)
        obtain ⟨⟨m0, m1, m2, m3, m4⟩, ⟨c0, c1, c2, c3, c4⟩, ⟨r0, r1, r2, r3, r4⟩, ⟨f0, f1, f2, f3, f4⟩, ⟨g0, g1, g2, g3, g4⟩, z1, z2⟩ := hb1.facts
        have HB1 := Lib.hid hb1; have HM1 := Lib.hid hm1; have HK1 := Lib.hid (HK.out.trans hk1)
        clear hb1 hm1
        go_upto_region 17 with (first
          | (go_at_call 24; refine (lock_lit 2 2 4 0 2 l 3 _ HRD.out _).mono ?_; rintro e w5 ⟨rfl, hk5⟩; clear m0 m1 m2 m3 m4 c0 c1 c2 c3 c4 r0 r1 r2 r3 r4 f0 f1 f2 f3 f4 g0 g1 g2 g3 g4 z1 z2; have hb5 := HB1.out.no hk5; have hm5 := HM1.out.keep hk5 (fun f => f) (fun _ _ f => f); obtain ⟨⟨m0, m1, m2, m3, m4⟩, ⟨c0, c1, c2, c3, c4⟩, ⟨r0, r1, r2, r3, r4⟩, ⟨f0, f1, f2, f3, f4⟩, ⟨g0, g1, g2, g3, g4⟩, z1, z2⟩ := hb5.facts; have HB5 := Lib.hid hb5; have HM5 := Lib.hid hm5; clear hb5 hm5)
          | (go_at_call 18; have hct := take8_yes t l 2 r x a v M _ ht hl HM5.out HL.out; rw [HD.out] at hct; unfold handV at hct; dsimp only at hct; refine hct.mono ?_; clear hct; rintro e w4 ⟨rfl, hm, hk4⟩; have hb4 := HB5.out.own hk4 ha HV.out; clear m0 m1 m2 m3 m4 c0 c1 c2 c3 c4 r0 r1 r2 r3 r4 f0 f1 f2 f3 f4 g0 g1 g2 g3 g4 z1 z2; obtain ⟨⟨m0, m1, m2, m3, m4⟩, ⟨c0, c1, c2, c3, c4⟩, ⟨r0, r1, r2, r3, r4⟩, ⟨f0, f1, f2, f3, f4⟩, ⟨g0, g1, g2, g3, g4⟩, z1, z2⟩ := hb4.facts; have HB4 := Lib.hid hb4; have hkk : Keeps (own2m a v) w w4 := (HK1.out.trans hk5).no.trans hk4; clear hb4))
        have hbN := HB4.out.h5 t l s1 r x1
        have hmN : MemAt (((((w4.setCell ⟨B + 1, 0, none⟩ (.int .i64 t)).setCell ⟨B + 1, 1, none⟩ (.int .i64 l)).setCell ⟨B + 1, 2, none⟩ (.int .i64 s1)).setCell ⟨B + 1, 3, none⟩ (.bool r)).setCell ⟨B + 1, 4, none⟩ (.int .i64 x1)) a v M1 := by
          repeat (first | (with_reducible exact hm) | refine MemT.set (B := B) ?_ ha HV.out _ (by show B ≤ _; dsimp only; omega) _)
        have hkN : Keeps (own2m a v) w (((((w4.setCell ⟨B + 1, 0, none⟩ (.int .i64 t)).setCell ⟨B + 1, 1, none⟩ (.int .i64 l)).setCell ⟨B + 1, 2, none⟩ (.int .i64 s1)).setCell ⟨B + 1, 3, none⟩ (.bool r)).setCell ⟨B + 1, 4, none⟩ (.int .i64 x1)) := by
          repeat (first | (with_reducible exact hkk) | refine kset HB.out ?_ _ (by show B ≤ _; dsimp only; omega) _)
        generalize (((((w4.setCell ⟨B + 1, 0, none⟩ (.int .i64 t)).setCell ⟨B + 1, 1, none⟩ (.int .i64 l)).setCell ⟨B + 1, 2, none⟩ (.int .i64 s1)).setCell ⟨B + 1, 3, none⟩ (.bool r)).setCell ⟨B + 1, 4, none⟩ (.int .i64 x1)) = w6 at *
        clear hm hkk m0 m1 m2 m3 m4 c0 c1 c2 c3 c4 r0 r1 r2 r3 r4 f0 f1 f2 f3 f4 g0 g1 g2 g3 g4 z1 z2
        obtain ⟨⟨m0, m1, m2, m3, m4⟩, ⟨c0, c1, c2, c3, c4⟩, ⟨r0, r1, r2, r3, r4⟩, ⟨f0, f1, f2, f3, f4⟩, ⟨g0, g1, g2, g3, g4⟩, z1, z2⟩ := hbN.facts
        have HB6 := Lib.hid hbN; have HM6 := Lib.hid hmN; have HK6 := Lib.hid hkN
        have hm := hmN; have hkk := hkN
        clear hbN hmN hkN
        go_wp2_with fail
        refine bodyPost_ret (v := .agg #[.int .i64 t, .int .i64 l, .int .i64 s1, .bool r, .int .i64 x1]) (by simp [results, Try.results45, go_sem, *]) rfl ⟨rfl, ?_, ?_⟩
        · repeat (first | (with_reducible exact hm) | refine MemT.set (B := B) ?_ ha HV.out _ (by show B ≤ _; dsimp only; omega) _)
        · repeat (first | (with_reducible exact hkk) | refine kset HB.out ?_ _ (by show B ≤ _; dsimp only; omega) _)
      · have hbx := bx_new w 2 2 4 0 2 t l 3 r x 24
        have hk : Keeps NoS w (((w.alloc (.cells #[.int .i64 2, .int .i64 2, .int .i64 4, .int .i64 0, .int .i64 2] 24)).alloc (.cells #[.int .i64 t, .int .i64 l, .int .i64 3, .bool r, .int .i64 x] 37)).alloc (.cells #[.int .i64 0, .int .i64 0, .int .i64 0, .bool false, .int .i64 0] 37)) := (((Keeps.refl NoS w).alloc _).alloc _).alloc _
        have ha := blk_lt hA.hd
        have hv : ∀ g, v.ownBlock = some g → g < w.heap.size := fun g hg => hA.own_lt hg
        have hA2 := hA.keep hk (fun f => f) (fun _ _ f => f)
        obtain ⟨B, hB⟩ : ∃ B, w.heap.size = B := ⟨_, rfl⟩
        rw [hB] at hbx hv ha
        have HB := Lib.hid hB; have HA2 := Lib.hid hA2; have HK := Lib.hid hk; have HV := Lib.hid hv; have HBX := Lib.hid hbx; have HL := Lib.hid hl48
        clear hB hA2 hk hv hbx hl48 hA
        go_enter Try.func45, Try.ntmps45
        go_wp2_with fail
        (try rw [HB.out])
        refine (rwfits_any t l 3 r x a v M _ HA2.out HL.out).mono ?_
        rw [HOK.out]
        rintro e w1 ⟨rfl, hk1⟩
        have hb1 := HBX.out.no hk1
        have hm1 := HA2.out.keep hk1 (fun f => f) (fun _ _ f => f)
        obtain ⟨⟨m0, m1, m2, m3, m4⟩, ⟨c0, c1, c2, c3, c4⟩, ⟨r0, r1, r2, r3, r4⟩, ⟨f0, f1, f2, f3, f4⟩, ⟨g0, g1, g2, g3, g4⟩, z1, z2⟩ := hb1.facts
        have HB1 := Lib.hid hb1; have HM1 := Lib.hid hm1; have HK1 := Lib.hid (HK.out.trans hk1)
        clear hb1 hm1
        go_upto_region 17 with (first
          | (go_at_call 24; refine (lock_lit 2 2 4 0 2 l 3 _ HRD.out _).mono ?_; rintro e w5 ⟨rfl, hk5⟩; clear m0 m1 m2 m3 m4 c0 c1 c2 c3 c4 r0 r1 r2 r3 r4 f0 f1 f2 f3 f4 g0 g1 g2 g3 g4 z1 z2; have hb5 := HB1.out.no hk5; have hm5 := HM1.out.keep hk5 (fun f => f) (fun _ _ f => f); obtain ⟨⟨m0, m1, m2, m3, m4⟩, ⟨c0, c1, c2, c3, c4⟩, ⟨r0, r1, r2, r3, r4⟩, ⟨f0, f1, f2, f3, f4⟩, ⟨g0, g1, g2, g3, g4⟩, z1, z2⟩ := hb5.facts; have HB5 := Lib.hid hb5; have HM5 := Lib.hid hm5; clear hb5 hm5)
          | (go_at_call 18; have hct := take8_yes t l 3 r x a v M _ ht hl HM5.out HL.out; rw [HD.out] at hct; unfold handV at hct; dsimp only at hct; refine hct.mono ?_; clear hct; rintro e w4 ⟨rfl, hm, hk4⟩; have hb4 := HB5.out.own hk4 ha HV.out; clear m0 m1 m2 m3 m4 c0 c1 c2 c3 c4 r0 r1 r2 r3 r4 f0 f1 f2 f3 f4 g0 g1 g2 g3 g4 z1 z2; obtain ⟨⟨m0, m1, m2, m3, m4⟩, ⟨c0, c1, c2, c3, c4⟩, ⟨r0, r1, r2, r3, r4⟩, ⟨f0, f1, f2, f3, f4⟩, ⟨g0, g1, g2, g3, g4⟩, z1, z2⟩ := hb4.facts; have HB4 := Lib.hid hb4; have hkk : Keeps (own2m a v) w w4 := (HK1.out.trans hk5).no.trans hk4; clear hb4))
        have hbN := HB4.out.h5 t l s1 r x1
        have hmN : MemAt (((((w4.setCell ⟨B + 1, 0, none⟩ (.int .i64 t)).setCell ⟨B + 1, 1, none⟩ (.int .i64 l)).setCell ⟨B + 1, 2, none⟩ (.int .i64 s1)).setCell ⟨B + 1, 3, none⟩ (.bool r)).setCell ⟨B + 1, 4, none⟩ (.int .i64 x1)) a v M1 := by
          repeat (first | (with_reducible exact hm) | refine MemT.set (B := B) ?_ ha HV.out _ (by show B ≤ _; dsimp only; omega) _)
        have hkN : Keeps (own2m a v) w (((((w4.setCell ⟨B + 1, 0, none⟩ (.int .i64 t)).setCell ⟨B + 1, 1, none⟩ (.int .i64 l)).setCell ⟨B + 1, 2, none⟩ (.int .i64 s1)).setCell ⟨B + 1, 3, none⟩ (.bool r)).setCell ⟨B + 1, 4, none⟩ (.int .i64 x1)) := by
          repeat (first | (with_reducible exact hkk) | refine kset HB.out ?_ _ (by show B ≤ _; dsimp only; omega) _)
        generalize (((((w4.setCell ⟨B + 1, 0, none⟩ (.int .i64 t)).setCell ⟨B + 1, 1, none⟩ (.int .i64 l)).setCell ⟨B + 1, 2, none⟩ (.int .i64 s1)).setCell ⟨B + 1, 3, none⟩ (.bool r)).setCell ⟨B + 1, 4, none⟩ (.int .i64 x1)) = w6 at *
        clear hm hkk m0 m1 m2 m3 m4 c0 c1 c2 c3 c4 r0 r1 r2 r3 r4 f0 f1 f2 f3 f4 g0 g1 g2 g3 g4 z1 z2
        obtain ⟨⟨m0, m1, m2, m3, m4⟩, ⟨c0, c1, c2, c3, c4⟩, ⟨r0, r1, r2, r3, r4⟩, ⟨f0, f1, f2, f3, f4⟩, ⟨g0, g1, g2, g3, g4⟩, z1, z2⟩ := hbN.facts
        have HB6 := Lib.hid hbN; have HM6 := Lib.hid hmN; have HK6 := Lib.hid hkN
        have hm := hmN; have hkk := hkN
        clear hbN hmN hkN
        go_wp2_with fail
        refine bodyPost_ret (v := .agg #[.int .i64 t, .int .i64 l, .int .i64 s1, .bool r, .int .i64 x1]) (by simp [results, Try.results45, go_sem, *]) rfl ⟨rfl, ?_, ?_⟩
        · repeat (first | (with_reducible exact hm) | refine MemT.set (B := B) ?_ ha HV.out _ (by show B ≤ _; dsimp only; omega) _)
        · repeat (first | (with_reducible exact hkk) | refine kset HB.out ?_ _ (by show B ≤ _; dsimp only; omega) _)
      · have hbx := bx_new w 2 2 4 0 2 t l 4 r x 24
        have hk : Keeps NoS w (((w.alloc (.cells #[.int .i64 2, .int .i64 2, .int .i64 4, .int .i64 0, .int .i64 2] 24)).alloc (.cells #[.int .i64 t, .int .i64 l, .int .i64 4, .bool r, .int .i64 x] 37)).alloc (.cells #[.int .i64 0, .int .i64 0, .int .i64 0, .bool false, .int .i64 0] 37)) := (((Keeps.refl NoS w).alloc _).alloc _).alloc _
        have ha := blk_lt hA.hd
        have hv : ∀ g, v.ownBlock = some g → g < w.heap.size := fun g hg => hA.own_lt hg
        have hA2 := hA.keep hk (fun f => f) (fun _ _ f => f)
        obtain ⟨B, hB⟩ : ∃ B, w.heap.size = B := ⟨_, rfl⟩
        rw [hB] at hbx hv ha
        have HB := Lib.hid hB; have HA2 := Lib.hid hA2; have HK := Lib.hid hk; have HV := Lib.hid hv; have HBX := Lib.hid hbx; have HL := Lib.hid hl48
        clear hB hA2 hk hv hbx hl48 hA
        go_enter Try.func45, Try.ntmps45
        go_wp2_with fail
        (try rw [HB.out])
        refine (rwfits_any t l 4 r x a v M _ HA2.out HL.out).mono ?_
        rw [HOK.out]
        rintro e w1 ⟨rfl, hk1⟩
        have hb1 := HBX.out.no hk1
        have hm1 := HA2.out.keep hk1 (fun f => f) (fun _ _ f => f)
        obtain ⟨⟨m0, m1, m2, m3, m4⟩, ⟨c0, c1, c2, c3, c4⟩, ⟨r0, r1, r2, r3, r4⟩, ⟨f0, f1, f2, f3, f4⟩, ⟨g0, g1, g2, g3, g4⟩, z1, z2⟩ := hb1.facts
        have HB1 := Lib.hid hb1; have HM1 := Lib.hid hm1; have HK1 := Lib.hid (HK.out.trans hk1)
        clear hb1 hm1
        go_upto_region 17 with (first
          | (go_at_call 24; refine (lock_lit 2 2 4 0 2 l 3 _ HRD.out _).mono ?_; rintro e w5 ⟨rfl, hk5⟩; clear m0 m1 m2 m3 m4 c0 c1 c2 c3 c4 r0 r1 r2 r3 r4 f0 f1 f2 f3 f4 g0 g1 g2 g3 g4 z1 z2; have hb5 := HB1.out.no hk5; have hm5 := HM1.out.keep hk5 (fun f => f) (fun _ _ f => f); obtain ⟨⟨m0, m1, m2, m3, m4⟩, ⟨c0, c1, c2, c3, c4⟩, ⟨r0, r1, r2, r3, r4⟩, ⟨f0, f1, f2, f3, f4⟩, ⟨g0, g1, g2, g3, g4⟩, z1, z2⟩ := hb5.facts; have HB5 := Lib.hid hb5; have HM5 := Lib.hid hm5; clear hb5 hm5)
          | (go_at_call 18; have hct := take8_yes t l 4 r x a v M _ ht hl HM5.out HL.out; rw [HD.out] at hct; unfold handV at hct; dsimp only at hct; refine hct.mono ?_; clear hct; rintro e w4 ⟨rfl, hm, hk4⟩; have hb4 := HB5.out.own hk4 ha HV.out; clear m0 m1 m2 m3 m4 c0 c1 c2 c3 c4 r0 r1 r2 r3 r4 f0 f1 f2 f3 f4 g0 g1 g2 g3 g4 z1 z2; obtain ⟨⟨m0, m1, m2, m3, m4⟩, ⟨c0, c1, c2, c3, c4⟩, ⟨r0, r1, r2, r3, r4⟩, ⟨f0, f1, f2, f3, f4⟩, ⟨g0, g1, g2, g3, g4⟩, z1, z2⟩ := hb4.facts; have HB4 := Lib.hid hb4; have hkk : Keeps (own2m a v) w w4 := (HK1.out.trans hk5).no.trans hk4; clear hb4))
        have hbN := HB4.out.h5 t l s1 r x1
        have hmN : MemAt (((((w4.setCell ⟨B + 1, 0, none⟩ (.int .i64 t)).setCell ⟨B + 1, 1, none⟩ (.int .i64 l)).setCell ⟨B + 1, 2, none⟩ (.int .i64 s1)).setCell ⟨B + 1, 3, none⟩ (.bool r)).setCell ⟨B + 1, 4, none⟩ (.int .i64 x1)) a v M1 := by
          repeat (first | (with_reducible exact hm) | refine MemT.set (B := B) ?_ ha HV.out _ (by show B ≤ _; dsimp only; omega) _)
        have hkN : Keeps (own2m a v) w (((((w4.setCell ⟨B + 1, 0, none⟩ (.int .i64 t)).setCell ⟨B + 1, 1, none⟩ (.int .i64 l)).setCell ⟨B + 1, 2, none⟩ (.int .i64 s1)).setCell ⟨B + 1, 3, none⟩ (.bool r)).setCell ⟨B + 1, 4, none⟩ (.int .i64 x1)) := by
          repeat (first | (with_reducible exact hkk) | refine kset HB.out ?_ _ (by show B ≤ _; dsimp only; omega) _)
        generalize (((((w4.setCell ⟨B + 1, 0, none⟩ (.int .i64 t)).setCell ⟨B + 1, 1, none⟩ (.int .i64 l)).setCell ⟨B + 1, 2, none⟩ (.int .i64 s1)).setCell ⟨B + 1, 3, none⟩ (.bool r)).setCell ⟨B + 1, 4, none⟩ (.int .i64 x1)) = w6 at *
        clear hm hkk m0 m1 m2 m3 m4 c0 c1 c2 c3 c4 r0 r1 r2 r3 r4 f0 f1 f2 f3 f4 g0 g1 g2 g3 g4 z1 z2
        obtain ⟨⟨m0, m1, m2, m3, m4⟩, ⟨c0, c1, c2, c3, c4⟩, ⟨r0, r1, r2, r3, r4⟩, ⟨f0, f1, f2, f3, f4⟩, ⟨g0, g1, g2, g3, g4⟩, z1, z2⟩ := hbN.facts
        have HB6 := Lib.hid hbN; have HM6 := Lib.hid hmN; have HK6 := Lib.hid hkN
        have hm := hmN; have hkk := hkN
        clear hbN hmN hkN
        go_wp2_with fail
        refine bodyPost_ret (v := .agg #[.int .i64 t, .int .i64 l, .int .i64 s1, .bool r, .int .i64 x1]) (by simp [results, Try.results45, go_sem, *]) rfl ⟨rfl, ?_, ?_⟩
        · repeat (first | (with_reducible exact hm) | refine MemT.set (B := B) ?_ ha HV.out _ (by show B ≤ _; dsimp only; omega) _)
        · repeat (first | (with_reducible exact hkk) | refine kset HB.out ?_ _ (by show B ≤ _; dsimp only; omega) _)
      · have hbx := bx_new w 2 2 4 0 2 t l 5 r x 24
        have hk : Keeps NoS w (((w.alloc (.cells #[.int .i64 2, .int .i64 2, .int .i64 4, .int .i64 0, .int .i64 2] 24)).alloc (.cells #[.int .i64 t, .int .i64 l, .int .i64 5, .bool r, .int .i64 x] 37)).alloc (.cells #[.int .i64 0, .int .i64 0, .int .i64 0, .bool false, .int .i64 0] 37)) := (((Keeps.refl NoS w).alloc _).alloc _).alloc _
        have ha := blk_lt hA.hd
        have hv : ∀ g, v.ownBlock = some g → g < w.heap.size := fun g hg => hA.own_lt hg
        have hA2 := hA.keep hk (fun f => f) (fun _ _ f => f)
        obtain ⟨B, hB⟩ : ∃ B, w.heap.size = B := ⟨_, rfl⟩
        rw [hB] at hbx hv ha
        have HB := Lib.hid hB; have HA2 := Lib.hid hA2; have HK := Lib.hid hk; have HV := Lib.hid hv; have HBX := Lib.hid hbx; have HL := Lib.hid hl48
        clear hB hA2 hk hv hbx hl48 hA
        go_enter Try.func45, Try.ntmps45
        go_wp2_with fail
        (try rw [HB.out])
        refine (rwfits_any t l 5 r x a v M _ HA2.out HL.out).mono ?_
        rw [HOK.out]
        rintro e w1 ⟨rfl, hk1⟩
        have hb1 := HBX.out.no hk1
        have hm1 := HA2.out.keep hk1 (fun f => f) (fun _ _ f => f)
        obtain ⟨⟨m0, m1, m2, m3, m4⟩, ⟨c0, c1, c2, c3, c4⟩, ⟨r0, r1, r2, r3, r4⟩, ⟨f0, f1, f2, f3, f4⟩, ⟨g0, g1, g2, g3, g4⟩, z1, z2⟩ := hb1.facts
        have HB1 := Lib.hid hb1; have HM1 := Lib.hid hm1; have HK1 := Lib.hid (HK.out.trans hk1)
        clear hb1 hm1
        go_upto_region 17 with (first
          | (go_at_call 24; refine (lock_lit 2 2 4 0 2 l 3 _ HRD.out _).mono ?_; rintro e w5 ⟨rfl, hk5⟩; clear m0 m1 m2 m3 m4 c0 c1 c2 c3 c4 r0 r1 r2 r3 r4 f0 f1 f2 f3 f4 g0 g1 g2 g3 g4 z1 z2; have hb5 := HB1.out.no hk5; have hm5 := HM1.out.keep hk5 (fun f => f) (fun _ _ f => f); obtain ⟨⟨m0, m1, m2, m3, m4⟩, ⟨c0, c1, c2, c3, c4⟩, ⟨r0, r1, r2, r3, r4⟩, ⟨f0, f1, f2, f3, f4⟩, ⟨g0, g1, g2, g3, g4⟩, z1, z2⟩ := hb5.facts; have HB5 := Lib.hid hb5; have HM5 := Lib.hid hm5; clear hb5 hm5)
          | (go_at_call 18; have hct := take8_yes t l 5 r x a v M _ ht hl HM5.out HL.out; rw [HD.out] at hct; unfold handV at hct; dsimp only at hct; refine hct.mono ?_; clear hct; rintro e w4 ⟨rfl, hm, hk4⟩; have hb4 := HB5.out.own hk4 ha HV.out; clear m0 m1 m2 m3 m4 c0 c1 c2 c3 c4 r0 r1 r2 r3 r4 f0 f1 f2 f3 f4 g0 g1 g2 g3 g4 z1 z2; obtain ⟨⟨m0, m1, m2, m3, m4⟩, ⟨c0, c1, c2, c3, c4⟩, ⟨r0, r1, r2, r3, r4⟩, ⟨f0, f1, f2, f3, f4⟩, ⟨g0, g1, g2, g3, g4⟩, z1, z2⟩ := hb4.facts; have HB4 := Lib.hid hb4; have hkk : Keeps (own2m a v) w w4 := (HK1.out.trans hk5).no.trans hk4; clear hb4))
        have hbN := HB4.out.h5 t l s1 r x1
        have hmN : MemAt (((((w4.setCell ⟨B + 1, 0, none⟩ (.int .i64 t)).setCell ⟨B + 1, 1, none⟩ (.int .i64 l)).setCell ⟨B + 1, 2, none⟩ (.int .i64 s1)).setCell ⟨B + 1, 3, none⟩ (.bool r)).setCell ⟨B + 1, 4, none⟩ (.int .i64 x1)) a v M1 := by
          repeat (first | (with_reducible exact hm) | refine MemT.set (B := B) ?_ ha HV.out _ (by show B ≤ _; dsimp only; omega) _)
        have hkN : Keeps (own2m a v) w (((((w4.setCell ⟨B + 1, 0, none⟩ (.int .i64 t)).setCell ⟨B + 1, 1, none⟩ (.int .i64 l)).setCell ⟨B + 1, 2, none⟩ (.int .i64 s1)).setCell ⟨B + 1, 3, none⟩ (.bool r)).setCell ⟨B + 1, 4, none⟩ (.int .i64 x1)) := by
          repeat (first | (with_reducible exact hkk) | refine kset HB.out ?_ _ (by show B ≤ _; dsimp only; omega) _)
        generalize (((((w4.setCell ⟨B + 1, 0, none⟩ (.int .i64 t)).setCell ⟨B + 1, 1, none⟩ (.int .i64 l)).setCell ⟨B + 1, 2, none⟩ (.int .i64 s1)).setCell ⟨B + 1, 3, none⟩ (.bool r)).setCell ⟨B + 1, 4, none⟩ (.int .i64 x1)) = w6 at *
        clear hm hkk m0 m1 m2 m3 m4 c0 c1 c2 c3 c4 r0 r1 r2 r3 r4 f0 f1 f2 f3 f4 g0 g1 g2 g3 g4 z1 z2
        obtain ⟨⟨m0, m1, m2, m3, m4⟩, ⟨c0, c1, c2, c3, c4⟩, ⟨r0, r1, r2, r3, r4⟩, ⟨f0, f1, f2, f3, f4⟩, ⟨g0, g1, g2, g3, g4⟩, z1, z2⟩ := hbN.facts
        have HB6 := Lib.hid hbN; have HM6 := Lib.hid hmN; have HK6 := Lib.hid hkN
        have hm := hmN; have hkk := hkN
        clear hbN hmN hkN
        go_wp2_with fail
        refine bodyPost_ret (v := .agg #[.int .i64 t, .int .i64 l, .int .i64 s1, .bool r, .int .i64 x1]) (by simp [results, Try.results45, go_sem, *]) rfl ⟨rfl, ?_, ?_⟩
        · repeat (first | (with_reducible exact hm) | refine MemT.set (B := B) ?_ ha HV.out _ (by show B ≤ _; dsimp only; omega) _)
        · repeat (first | (with_reducible exact hkk) | refine kset HB.out ?_ _ (by show B ≤ _; dsimp only; omega) _)
  by_cases h10 : s = 10
  · subst h10
    cases r with
    | true =>
      rw [show wTake M t l 10 true x = (M.add (rdA l) 1, ⟨t, l, 11, true, x⟩) from rfl]
      unfold handV
      dsimp only
      have hbx := bx_new w 2 2 4 0 2 t l 10 true x 24
      have hk : Keeps NoS w (((w.alloc (.cells #[.int .i64 2, .int .i64 2, .int .i64 4, .int .i64 0, .int .i64 2] 24)).alloc (.cells #[.int .i64 t, .int .i64 l, .int .i64 10, .bool true, .int .i64 x] 37)).alloc (.cells #[.int .i64 0, .int .i64 0, .int .i64 0, .bool false, .int .i64 0] 37)) := (((Keeps.refl NoS w).alloc _).alloc _).alloc _
      have ha := blk_lt hA.hd
      have hv : ∀ g, v.ownBlock = some g → g < w.heap.size := fun g hg => hA.own_lt hg
      have hA2 := hA.keep hk (fun f => f) (fun _ _ f => f)
      obtain ⟨B, hB⟩ : ∃ B, w.heap.size = B := ⟨_, rfl⟩
      rw [hB] at hbx hv ha
      have HB := Lib.hid hB; have HA2 := Lib.hid hA2; have HK := Lib.hid hk; have HV := Lib.hid hv; have HBX := Lib.hid hbx; have HL := Lib.hid hl48
      clear hB hA2 hk hv hbx hl48 hA
      go_enter Try.func45, Try.ntmps45
      go_wp2_with fail
      (try rw [HB.out])
      refine (rwfits_any t l 10 true x a v M _ HA2.out HL.out).mono ?_
      rw [HOK.out]
      rintro e w1 ⟨rfl, hk1⟩
      have hb1 := HBX.out.no hk1
      have hm1 := HA2.out.keep hk1 (fun f => f) (fun _ _ f => f)
      obtain ⟨⟨m0, m1, m2, m3, m4⟩, ⟨c0, c1, c2, c3, c4⟩, ⟨r0, r1, r2, r3, r4⟩, ⟨f0, f1, f2, f3, f4⟩, ⟨g0, g1, g2, g3, g4⟩, z1, z2⟩ := hb1.facts
      have HB1 := Lib.hid hb1; have HM1 := Lib.hid hm1; have HK1 := Lib.hid (HK.out.trans hk1)
      clear hb1 hm1
      go_wp2_with (first
        | (go_at_call 24; refine (lock_lit 2 2 4 0 2 l 3 _ HRD.out _).mono ?_; rintro e w5 ⟨rfl, hk5⟩; clear m0 m1 m2 m3 m4 c0 c1 c2 c3 c4 r0 r1 r2 r3 r4 f0 f1 f2 f3 f4 g0 g1 g2 g3 g4 z1 z2; have hb5 := HB1.out.no hk5; have hm5 := HM1.out.keep hk5 (fun f => f) (fun _ _ f => f); obtain ⟨⟨m0, m1, m2, m3, m4⟩, ⟨c0, c1, c2, c3, c4⟩, ⟨r0, r1, r2, r3, r4⟩, ⟨f0, f1, f2, f3, f4⟩, ⟨g0, g1, g2, g3, g4⟩, z1, z2⟩ := hb5.facts; have HB5 := Lib.hid hb5; have HM5 := Lib.hid hm5; clear hb5 hm5)
        | (go_at_call 71; rw [← HAA.out]; refine (add_ok a v M (rdA l) 1 _ HM5.out HRL.out).mono ?_; rintro e w4 ⟨rfl, hm, hk4⟩; have hb4 := HB5.out.own hk4 ha HV.out; clear m0 m1 m2 m3 m4 c0 c1 c2 c3 c4 r0 r1 r2 r3 r4 f0 f1 f2 f3 f4 g0 g1 g2 g3 g4 z1 z2; obtain ⟨⟨m0, m1, m2, m3, m4⟩, ⟨c0, c1, c2, c3, c4⟩, ⟨r0, r1, r2, r3, r4⟩, ⟨f0, f1, f2, f3, f4⟩, ⟨g0, g1, g2, g3, g4⟩, z1, z2⟩ := hb4.facts; have HB4 := Lib.hid hb4; have hkk : Keeps (own2m a v) w w4 := (HK1.out.trans hk5).no.trans hk4; clear hb4))
      refine bodyPost_ret (v := .agg #[.int .i64 t, .int .i64 l, .int .i64 11, .bool true, .int .i64 x]) (by simp [results, Try.results45, go_sem, *]) rfl ⟨rfl, ?_, ?_⟩
      · repeat (first | (with_reducible exact hm) | refine MemT.set (B := B) ?_ ha HV.out _ (by show B ≤ _; dsimp only; omega) _)
      · repeat (first | (with_reducible exact hkk) | refine kset HB.out ?_ _ (by show B ≤ _; dsimp only; omega) _)
    | false =>
      obtain ⟨c, hc⟩ : ∃ c, M.word (rdA l) = c := ⟨_, rfl⟩
      rw [show wTake M t l 10 false x = (M.load (rdA l), ⟨t, l, if c = 0 then 9 else 10, false, x⟩) by rw [← hc]; rfl]
      unfold handV
      dsimp only
      by_cases hc0 : c = 0
      · subst hc0
        rw [if_pos rfl]
        have HC := Lib.hid hc
        clear hc
        have hbx := bx_new w 2 2 4 0 2 t l 10 false x 24
        have hk : Keeps NoS w (((w.alloc (.cells #[.int .i64 2, .int .i64 2, .int .i64 4, .int .i64 0, .int .i64 2] 24)).alloc (.cells #[.int .i64 t, .int .i64 l, .int .i64 10, .bool false, .int .i64 x] 37)).alloc (.cells #[.int .i64 0, .int .i64 0, .int .i64 0, .bool false, .int .i64 0] 37)) := (((Keeps.refl NoS w).alloc _).alloc _).alloc _
        have ha := blk_lt hA.hd
        have hv : ∀ g, v.ownBlock = some g → g < w.heap.size := fun g hg => hA.own_lt hg
        have hA2 := hA.keep hk (fun f => f) (fun _ _ f => f)
        obtain ⟨B, hB⟩ : ∃ B, w.heap.size = B := ⟨_, rfl⟩
        rw [hB] at hbx hv ha
        have HB := Lib.hid hB; have HA2 := Lib.hid hA2; have HK := Lib.hid hk; have HV := Lib.hid hv; have HBX := Lib.hid hbx; have HL := Lib.hid hl48
        clear hB hA2 hk hv hbx hl48 hA
        go_enter Try.func45, Try.ntmps45
        go_wp2_with fail
        (try rw [HB.out])
        refine (rwfits_any t l 10 false x a v M _ HA2.out HL.out).mono ?_
        rw [HOK.out]
        rintro e w1 ⟨rfl, hk1⟩
        have hb1 := HBX.out.no hk1
        have hm1 := HA2.out.keep hk1 (fun f => f) (fun _ _ f => f)
        obtain ⟨⟨m0, m1, m2, m3, m4⟩, ⟨c0, c1, c2, c3, c4⟩, ⟨r0, r1, r2, r3, r4⟩, ⟨f0, f1, f2, f3, f4⟩, ⟨g0, g1, g2, g3, g4⟩, z1, z2⟩ := hb1.facts
        have HB1 := Lib.hid hb1; have HM1 := Lib.hid hm1; have HK1 := Lib.hid (HK.out.trans hk1)
        clear hb1 hm1
        go_wp2_with (first
          | (go_at_call 24; refine (lock_lit 2 2 4 0 2 l 3 _ HRD.out _).mono ?_; rintro e w5 ⟨rfl, hk5⟩; clear m0 m1 m2 m3 m4 c0 c1 c2 c3 c4 r0 r1 r2 r3 r4 f0 f1 f2 f3 f4 g0 g1 g2 g3 g4 z1 z2; have hb5 := HB1.out.no hk5; have hm5 := HM1.out.keep hk5 (fun f => f) (fun _ _ f => f); obtain ⟨⟨m0, m1, m2, m3, m4⟩, ⟨c0, c1, c2, c3, c4⟩, ⟨r0, r1, r2, r3, r4⟩, ⟨f0, f1, f2, f3, f4⟩, ⟨g0, g1, g2, g3, g4⟩, z1, z2⟩ := hb5.facts; have HB5 := Lib.hid hb5; have HM5 := Lib.hid hm5; clear hb5 hm5)
          | (go_at_call 51; rw [← HAA.out]; refine (load_ok a v M (rdA l) _ HM5.out HRL.out).mono ?_; rw [HC.out]; rintro e w4 ⟨rfl, hm, hk4'⟩; have hk4 : Keeps (own2m a v) w5 w4 := hk4'.mono (fun _ e => .inl e); have hb4 := HB5.out.own hk4 ha HV.out; clear m0 m1 m2 m3 m4 c0 c1 c2 c3 c4 r0 r1 r2 r3 r4 f0 f1 f2 f3 f4 g0 g1 g2 g3 g4 z1 z2; obtain ⟨⟨m0, m1, m2, m3, m4⟩, ⟨c0, c1, c2, c3, c4⟩, ⟨r0, r1, r2, r3, r4⟩, ⟨f0, f1, f2, f3, f4⟩, ⟨g0, g1, g2, g3, g4⟩, z1, z2⟩ := hb4.facts; have HB4 := Lib.hid hb4; have hkk : Keeps (own2m a v) w w4 := (HK1.out.trans hk5).no.trans hk4; clear hb4))
        refine bodyPost_ret (v := .agg #[.int .i64 t, .int .i64 l, .int .i64 9, .bool false, .int .i64 x]) (by simp [results, Try.results45, go_sem, *]) rfl ⟨rfl, ?_, ?_⟩
        · repeat (first | (with_reducible exact hm) | refine MemT.set (B := B) ?_ ha HV.out _ (by show B ≤ _; dsimp only; omega) _)
        · repeat (first | (with_reducible exact hkk) | refine kset HB.out ?_ _ (by show B ≤ _; dsimp only; omega) _)
      · rw [if_neg hc0]
        have HC := Lib.hid hc
        have hc1 : (c == 0) = false := by simpa using hc0
        clear hc hc0
        have hbx := bx_new w 2 2 4 0 2 t l 10 false x 24
        have hk : Keeps NoS w (((w.alloc (.cells #[.int .i64 2, .int .i64 2, .int .i64 4, .int .i64 0, .int .i64 2] 24)).alloc (.cells #[.int .i64 t, .int .i64 l, .int .i64 10, .bool false, .int .i64 x] 37)).alloc (.cells #[.int .i64 0, .int .i64 0, .int .i64 0, .bool false, .int .i64 0] 37)) := (((Keeps.refl NoS w).alloc _).alloc _).alloc _
        have ha := blk_lt hA.hd
        have hv : ∀ g, v.ownBlock = some g → g < w.heap.size := fun g hg => hA.own_lt hg
        have hA2 := hA.keep hk (fun f => f) (fun _ _ f => f)
        obtain ⟨B, hB⟩ : ∃ B, w.heap.size = B := ⟨_, rfl⟩
        rw [hB] at hbx hv ha
        have HB := Lib.hid hB; have HA2 := Lib.hid hA2; have HK := Lib.hid hk; have HV := Lib.hid hv; have HBX := Lib.hid hbx; have HL := Lib.hid hl48
        clear hB hA2 hk hv hbx hl48 hA
        go_enter Try.func45, Try.ntmps45
        go_wp2_with fail
        (try rw [HB.out])
        refine (rwfits_any t l 10 false x a v M _ HA2.out HL.out).mono ?_
        rw [HOK.out]
        rintro e w1 ⟨rfl, hk1⟩
        have hb1 := HBX.out.no hk1
        have hm1 := HA2.out.keep hk1 (fun f => f) (fun _ _ f => f)
        obtain ⟨⟨m0, m1, m2, m3, m4⟩, ⟨c0, c1, c2, c3, c4⟩, ⟨r0, r1, r2, r3, r4⟩, ⟨f0, f1, f2, f3, f4⟩, ⟨g0, g1, g2, g3, g4⟩, z1, z2⟩ := hb1.facts
        have HB1 := Lib.hid hb1; have HM1 := Lib.hid hm1; have HK1 := Lib.hid (HK.out.trans hk1)
        clear hb1 hm1
        go_wp2_with (first
          | (go_at_call 24; refine (lock_lit 2 2 4 0 2 l 3 _ HRD.out _).mono ?_; rintro e w5 ⟨rfl, hk5⟩; clear m0 m1 m2 m3 m4 c0 c1 c2 c3 c4 r0 r1 r2 r3 r4 f0 f1 f2 f3 f4 g0 g1 g2 g3 g4 z1 z2; have hb5 := HB1.out.no hk5; have hm5 := HM1.out.keep hk5 (fun f => f) (fun _ _ f => f); obtain ⟨⟨m0, m1, m2, m3, m4⟩, ⟨c0, c1, c2, c3, c4⟩, ⟨r0, r1, r2, r3, r4⟩, ⟨f0, f1, f2, f3, f4⟩, ⟨g0, g1, g2, g3, g4⟩, z1, z2⟩ := hb5.facts; have HB5 := Lib.hid hb5; have HM5 := Lib.hid hm5; clear hb5 hm5)
          | (go_at_call 51; rw [← HAA.out]; refine (load_ok a v M (rdA l) _ HM5.out HRL.out).mono ?_; rw [HC.out]; rintro e w4 ⟨rfl, hm, hk4'⟩; have hk4 : Keeps (own2m a v) w5 w4 := hk4'.mono (fun _ e => .inl e); have hb4 := HB5.out.own hk4 ha HV.out; clear m0 m1 m2 m3 m4 c0 c1 c2 c3 c4 r0 r1 r2 r3 r4 f0 f1 f2 f3 f4 g0 g1 g2 g3 g4 z1 z2; obtain ⟨⟨m0, m1, m2, m3, m4⟩, ⟨c0, c1, c2, c3, c4⟩, ⟨r0, r1, r2, r3, r4⟩, ⟨f0, f1, f2, f3, f4⟩, ⟨g0, g1, g2, g3, g4⟩, z1, z2⟩ := hb4.facts; have HB4 := Lib.hid hb4; have hkk : Keeps (own2m a v) w w4 := (HK1.out.trans hk5).no.trans hk4; clear hb4))
        refine bodyPost_ret (v := .agg #[.int .i64 t, .int .i64 l, .int .i64 10, .bool false, .int .i64 x]) (by simp [results, Try.results45, go_sem, *]) rfl ⟨rfl, ?_, ?_⟩
        · repeat (first | (with_reducible exact hm) | refine MemT.set (B := B) ?_ ha HV.out _ (by show B ≤ _; dsimp only; omega) _)
        · repeat (first | (with_reducible exact hkk) | refine kset HB.out ?_ _ (by show B ≤ _; dsimp only; omega) _)
  by_cases hs14 : 11 ≤ s ∧ s ≤ 14
  · cases r with
    | false =>
      rw [show wTake M t l s false x = (M, ⟨t, l, s, false, x⟩) by unfold wTake; rw [if_neg hs05, if_neg h10, if_neg (by simp)]]
      unfold handV
      dsimp only
      clear hs05 h10
      have hs : s = 11 ∨ s = 12 ∨ s = 13 ∨ s = 14 := by omega
      clear hs14
      rcases hs with rfl | rfl | rfl | rfl
      · have hbx := bx_new w 2 2 4 0 2 t l 11 false x 24
        have hk : Keeps NoS w (((w.alloc (.cells #[.int .i64 2, .int .i64 2, .int .i64 4, .int .i64 0, .int .i64 2] 24)).alloc (.cells #[.int .i64 t, .int .i64 l, .int .i64 11, .bool false, .int .i64 x] 37)).alloc (.cells #[.int .i64 0, .int .i64 0, .int .i64 0, .bool false, .int .i64 0] 37)) := (((Keeps.refl NoS w).alloc _).alloc _).alloc _
        have ha := blk_lt hA.hd
        have hv : ∀ g, v.ownBlock = some g → g < w.heap.size := fun g hg => hA.own_lt hg
        have hA2 := hA.keep hk (fun f => f) (fun _ _ f => f)
        obtain ⟨B, hB⟩ : ∃ B, w.heap.size = B := ⟨_, rfl⟩
        rw [hB] at hbx hv ha
        have HB := Lib.hid hB; have HA2 := Lib.hid hA2; have HK := Lib.hid hk; have HV := Lib.hid hv; have HBX := Lib.hid hbx; have HL := Lib.hid hl48
        clear hB hA2 hk hv hbx hl48 hA
        go_enter Try.func45, Try.ntmps45
        go_wp2_with fail
        (try rw [HB.out])
        refine (rwfits_any t l 11 false x a v M _ HA2.out HL.out).mono ?_
        rw [HOK.out]
        rintro e w1 ⟨rfl, hk1⟩
        have hb1 := HBX.out.no hk1
        have hm1 := HA2.out.keep hk1 (fun f => f) (fun _ _ f => f)
        obtain ⟨⟨m0, m1, m2, m3, m4⟩, ⟨c0, c1, c2, c3, c4⟩, ⟨r0, r1, r2, r3, r4⟩, ⟨f0, f1, f2, f3, f4⟩, ⟨g0, g1, g2, g3, g4⟩, z1, z2⟩ := hb1.facts
        have HB1 := Lib.hid hb1; have HM1 := Lib.hid hm1; have HK1 := Lib.hid (HK.out.trans hk1)
        clear hb1 hm1
        go_wp2_with (first
          | (go_at_call 24; refine (lock_lit 2 2 4 0 2 l 3 _ HRD.out _).mono ?_; rintro e w5 ⟨rfl, hk5⟩; clear m0 m1 m2 m3 m4 c0 c1 c2 c3 c4 r0 r1 r2 r3 r4 f0 f1 f2 f3 f4 g0 g1 g2 g3 g4 z1 z2; have hb5 := HB1.out.no hk5; have hm5 := HM1.out.keep hk5 (fun f => f) (fun _ _ f => f); obtain ⟨⟨m0, m1, m2, m3, m4⟩, ⟨c0, c1, c2, c3, c4⟩, ⟨r0, r1, r2, r3, r4⟩, ⟨f0, f1, f2, f3, f4⟩, ⟨g0, g1, g2, g3, g4⟩, z1, z2⟩ := hb5.facts; have HB5 := Lib.hid hb5; have HM5 := Lib.hid hm5; clear hb5 hm5))
        have hm := HM5.out
        have hkk : Keeps (own2m a v) w w5 := (HK1.out.trans hk5).no
        refine bodyPost_ret (v := .agg #[.int .i64 t, .int .i64 l, .int .i64 11, .bool false, .int .i64 x]) (by simp [results, Try.results45, go_sem, *]) rfl ⟨rfl, ?_, ?_⟩
        · repeat (first | (with_reducible exact hm) | refine MemT.set (B := B) ?_ ha HV.out _ (by show B ≤ _; dsimp only; omega) _)
        · repeat (first | (with_reducible exact hkk) | refine kset HB.out ?_ _ (by show B ≤ _; dsimp only; omega) _)
      · have hbx := bx_new w 2 2 4 0 2 t l 12 false x 24
        have hk : Keeps NoS w (((w.alloc (.cells #[.int .i64 2, .int .i64 2, .int .i64 4, .int .i64 0, .int .i64 2] 24)).alloc (.cells #[.int .i64 t, .int .i64 l, .int .i64 12, .bool false, .int .i64 x] 37)).alloc (.cells #[.int .i64 0, .int .i64 0, .int .i64 0, .bool false, .int .i64 0] 37)) := (((Keeps.refl NoS w).alloc _).alloc _).alloc _
        have ha := blk_lt hA.hd
        have hv : ∀ g, v.ownBlock = some g → g < w.heap.size := fun g hg => hA.own_lt hg
        have hA2 := hA.keep hk (fun f => f) (fun _ _ f => f)
        obtain ⟨B, hB⟩ : ∃ B, w.heap.size = B := ⟨_, rfl⟩
        rw [hB] at hbx hv ha
        have HB := Lib.hid hB; have HA2 := Lib.hid hA2; have HK := Lib.hid hk; have HV := Lib.hid hv; have HBX := Lib.hid hbx; have HL := Lib.hid hl48
        clear hB hA2 hk hv hbx hl48 hA
        go_enter Try.func45, Try.ntmps45
        go_wp2_with fail
        (try rw [HB.out])
        refine (rwfits_any t l 12 false x a v M _ HA2.out HL.out).mono ?_
        rw [HOK.out]
        rintro e w1 ⟨rfl, hk1⟩
        have hb1 := HBX.out.no hk1
        have hm1 := HA2.out.keep hk1 (fun f => f) (fun _ _ f => f)
        obtain ⟨⟨m0, m1, m2, m3, m4⟩, ⟨c0, c1, c2, c3, c4⟩, ⟨r0, r1, r2, r3, r4⟩, ⟨f0, f1, f2, f3, f4⟩, ⟨g0, g1, g2, g3, g4⟩, z1, z2⟩ := hb1.facts
        have HB1 := Lib.hid hb1; have HM1 := Lib.hid hm1; have HK1 := Lib.hid (HK.out.trans hk1)
        clear hb1 hm1
        go_wp2_with (first
          | (go_at_call 24; refine (lock_lit 2 2 4 0 2 l 3 _ HRD.out _).mono ?_; rintro e w5 ⟨rfl, hk5⟩; clear m0 m1 m2 m3 m4 c0 c1 c2 c3 c4 r0 r1 r2 r3 r4 f0 f1 f2 f3 f4 g0 g1 g2 g3 g4 z1 z2; have hb5 := HB1.out.no hk5; have hm5 := HM1.out.keep hk5 (fun f => f) (fun _ _ f => f); obtain ⟨⟨m0, m1, m2, m3, m4⟩, ⟨c0, c1, c2, c3, c4⟩, ⟨r0, r1, r2, r3, r4⟩, ⟨f0, f1, f2, f3, f4⟩, ⟨g0, g1, g2, g3, g4⟩, z1, z2⟩ := hb5.facts; have HB5 := Lib.hid hb5; have HM5 := Lib.hid hm5; clear hb5 hm5))
        have hm := HM5.out
        have hkk : Keeps (own2m a v) w w5 := (HK1.out.trans hk5).no
        refine bodyPost_ret (v := .agg #[.int .i64 t, .int .i64 l, .int .i64 12, .bool false, .int .i64 x]) (by simp [results, Try.results45, go_sem, *]) rfl ⟨rfl, ?_, ?_⟩
        · repeat (first | (with_reducible exact hm) | refine MemT.set (B := B) ?_ ha HV.out _ (by show B ≤ _; dsimp only; omega) _)
        · repeat (first | (with_reducible exact hkk) | refine kset HB.out ?_ _ (by show B ≤ _; dsimp only; omega) _)
      · have hbx := bx_new w 2 2 4 0 2 t l 13 false x 24
        have hk : Keeps NoS w (((w.alloc (.cells #[.int .i64 2, .int .i64 2, .int .i64 4, .int .i64 0, .int .i64 2] 24)).alloc (.cells #[.int .i64 t, .int .i64 l, .int .i64 13, .bool false, .int .i64 x] 37)).alloc (.cells #[.int .i64 0, .int .i64 0, .int .i64 0, .bool false, .int .i64 0] 37)) := (((Keeps.refl NoS w).alloc _).alloc _).alloc _
        have ha := blk_lt hA.hd
        have hv : ∀ g, v.ownBlock = some g → g < w.heap.size := fun g hg => hA.own_lt hg
        have hA2 := hA.keep hk (fun f => f) (fun _ _ f => f)
        obtain ⟨B, hB⟩ : ∃ B, w.heap.size = B := ⟨_, rfl⟩
        rw [hB] at hbx hv ha
        have HB := Lib.hid hB; have HA2 := Lib.hid hA2; have HK := Lib.hid hk; have HV := Lib.hid hv; have HBX := Lib.hid hbx; have HL := Lib.hid hl48
        clear hB hA2 hk hv hbx hl48 hA
        go_enter Try.func45, Try.ntmps45
        go_wp2_with fail
        (try rw [HB.out])
        refine (rwfits_any t l 13 false x a v M _ HA2.out HL.out).mono ?_
        rw [HOK.out]
        rintro e w1 ⟨rfl, hk1⟩
        have hb1 := HBX.out.no hk1
        have hm1 := HA2.out.keep hk1 (fun f => f) (fun _ _ f => f)
        obtain ⟨⟨m0, m1, m2, m3, m4⟩, ⟨c0, c1, c2, c3, c4⟩, ⟨r0, r1, r2, r3, r4⟩, ⟨f0, f1, f2, f3, f4⟩, ⟨g0, g1, g2, g3, g4⟩, z1, z2⟩ := hb1.facts
        have HB1 := Lib.hid hb1; have HM1 := Lib.hid hm1; have HK1 := Lib.hid (HK.out.trans hk1)
        clear hb1 hm1
        go_wp2_with (first
          | (go_at_call 24; refine (lock_lit 2 2 4 0 2 l 3 _ HRD.out _).mono ?_; rintro e w5 ⟨rfl, hk5⟩; clear m0 m1 m2 m3 m4 c0 c1 c2 c3 c4 r0 r1 r2 r3 r4 f0 f1 f2 f3 f4 g0 g1 g2 g3 g4 z1 z2; have hb5 := HB1.out.no hk5; have hm5 := HM1.out.keep hk5 (fun f => f) (fun _ _ f => f); obtain ⟨⟨m0, m1, m2, m3, m4⟩, ⟨c0, c1, c2, c3, c4⟩, ⟨r0, r1, r2, r3, r4⟩, ⟨f0, f1, f2, f3, f4⟩, ⟨g0, g1, g2, g3, g4⟩, z1, z2⟩ := hb5.facts; have HB5 := Lib.hid hb5; have HM5 := Lib.hid hm5; clear hb5 hm5))
        have hm := HM5.out
        have hkk : Keeps (own2m a v) w w5 := (HK1.out.trans hk5).no
        refine bodyPost_ret (v := .agg #[.int .i64 t, .int .i64 l, .int .i64 13, .bool false, .int .i64 x]) (by simp [results, Try.results45, go_sem, *]) rfl ⟨rfl, ?_, ?_⟩
        · repeat (first | (with_reducible exact hm) | refine MemT.set (B := B) ?_ ha HV.out _ (by show B ≤ _; dsimp only; omega) _)
        · repeat (first | (with_reducible exact hkk) | refine kset HB.out ?_ _ (by show B ≤ _; dsimp only; omega) _)
      · have hbx := bx_new w 2 2 4 0 2 t l 14 false x 24
        have hk : Keeps NoS w (((w.alloc (.cells #[.int .i64 2, .int .i64 2, .int .i64 4, .int .i64 0, .int .i64 2] 24)).alloc (.cells #[.int .i64 t, .int .i64 l, .int .i64 14, .bool false, .int .i64 x] 37)).alloc (.cells #[.int .i64 0, .int .i64 0, .int .i64 0, .bool false, .int .i64 0] 37)) := (((Keeps.refl NoS w).alloc _).alloc _).alloc _
        have ha := blk_lt hA.hd
        have hv : ∀ g, v.ownBlock = some g → g < w.heap.size := fun g hg => hA.own_lt hg
        have hA2 := hA.keep hk (fun f => f) (fun _ _ f => f)
        obtain ⟨B, hB⟩ : ∃ B, w.heap.size = B := ⟨_, rfl⟩
        rw [hB] at hbx hv ha
        have HB := Lib.hid hB; have HA2 := Lib.hid hA2; have HK := Lib.hid hk; have HV := Lib.hid hv; have HBX := Lib.hid hbx; have HL := Lib.hid hl48
        clear hB hA2 hk hv hbx hl48 hA
        go_enter Try.func45, Try.ntmps45
        go_wp2_with fail
        (try rw [HB.out])
        refine (rwfits_any t l 14 false x a v M _ HA2.out HL.out).mono ?_
        rw [HOK.out]
        rintro e w1 ⟨rfl, hk1⟩
        have hb1 := HBX.out.no hk1
        have hm1 := HA2.out.keep hk1 (fun f => f) (fun _ _ f => f)
        obtain ⟨⟨m0, m1, m2, m3, m4⟩, ⟨c0, c1, c2, c3, c4⟩, ⟨r0, r1, r2, r3, r4⟩, ⟨f0, f1, f2, f3, f4⟩, ⟨g0, g1, g2, g3, g4⟩, z1, z2⟩ := hb1.facts
        have HB1 := Lib.hid hb1; have HM1 := Lib.hid hm1; have HK1 := Lib.hid (HK.out.trans hk1)
        clear hb1 hm1
        go_wp2_with (first
          | (go_at_call 24; refine (lock_lit 2 2 4 0 2 l 3 _ HRD.out _).mono ?_; rintro e w5 ⟨rfl, hk5⟩; clear m0 m1 m2 m3 m4 c0 c1 c2 c3 c4 r0 r1 r2 r3 r4 f0 f1 f2 f3 f4 g0 g1 g2 g3 g4 z1 z2; have hb5 := HB1.out.no hk5; have hm5 := HM1.out.keep hk5 (fun f => f) (fun _ _ f => f); obtain ⟨⟨m0, m1, m2, m3, m4⟩, ⟨c0, c1, c2, c3, c4⟩, ⟨r0, r1, r2, r3, r4⟩, ⟨f0, f1, f2, f3, f4⟩, ⟨g0, g1, g2, g3, g4⟩, z1, z2⟩ := hb5.facts; have HB5 := Lib.hid hb5; have HM5 := Lib.hid hm5; clear hb5 hm5))
        have hm := HM5.out
        have hkk : Keeps (own2m a v) w w5 := (HK1.out.trans hk5).no
        refine bodyPost_ret (v := .agg #[.int .i64 t, .int .i64 l, .int .i64 14, .bool false, .int .i64 x]) (by simp [results, Try.results45, go_sem, *]) rfl ⟨rfl, ?_, ?_⟩
        · repeat (first | (with_reducible exact hm) | refine MemT.set (B := B) ?_ ha HV.out _ (by show B ≤ _; dsimp only; omega) _)
        · repeat (first | (with_reducible exact hkk) | refine kset HB.out ?_ _ (by show B ≤ _; dsimp only; omega) _)
    | true =>
      obtain ⟨M1, s1, x1, hd⟩ := mDrop_hnd M t l (inI s) true x
      rw [show wTake M t l s true x = (M1, ⟨t, l, outI s1, true, x1⟩) by unfold wTake; rw [if_neg hs05, if_neg h10, if_pos ⟨rfl, hs14⟩, hd]]
      have hto := mDrop_to hd (inI_is s)
      have HD := Lib.hid hd
      clear hd hs05 h10
      unfold handV
      dsimp only
      have hs : s = 11 ∨ s = 12 ∨ s = 13 ∨ s = 14 := by omega
      clear hs14
      clear hto
      rcases hs with rfl | rfl | rfl | rfl
      · have hoc := fun W (h : MemAt W a v M) => out8_any t l 11 x a v M M1 s1 x1 W ht hl (by omega) HD.out h hl48
        have HOC := Lib.hid hoc
        clear hoc
        have hbx := bx_new w 2 2 4 0 2 t l 11 true x 24
        have hk : Keeps NoS w (((w.alloc (.cells #[.int .i64 2, .int .i64 2, .int .i64 4, .int .i64 0, .int .i64 2] 24)).alloc (.cells #[.int .i64 t, .int .i64 l, .int .i64 11, .bool true, .int .i64 x] 37)).alloc (.cells #[.int .i64 0, .int .i64 0, .int .i64 0, .bool false, .int .i64 0] 37)) := (((Keeps.refl NoS w).alloc _).alloc _).alloc _
        have ha := blk_lt hA.hd
        have hv : ∀ g, v.ownBlock = some g → g < w.heap.size := fun g hg => hA.own_lt hg
        have hA2 := hA.keep hk (fun f => f) (fun _ _ f => f)
        obtain ⟨B, hB⟩ : ∃ B, w.heap.size = B := ⟨_, rfl⟩
        rw [hB] at hbx hv ha
        have HB := Lib.hid hB; have HA2 := Lib.hid hA2; have HK := Lib.hid hk; have HV := Lib.hid hv; have HBX := Lib.hid hbx; have HL := Lib.hid hl48
        clear hB hA2 hk hv hbx hl48 hA
        go_enter Try.func45, Try.ntmps45
        go_wp2_with fail
        (try rw [HB.out])
        refine (rwfits_any t l 11 true x a v M _ HA2.out HL.out).mono ?_
        rw [HOK.out]
        rintro e w1 ⟨rfl, hk1⟩
        have hb1 := HBX.out.no hk1
        have hm1 := HA2.out.keep hk1 (fun f => f) (fun _ _ f => f)
        obtain ⟨⟨m0, m1, m2, m3, m4⟩, ⟨c0, c1, c2, c3, c4⟩, ⟨r0, r1, r2, r3, r4⟩, ⟨f0, f1, f2, f3, f4⟩, ⟨g0, g1, g2, g3, g4⟩, z1, z2⟩ := hb1.facts
        have HB1 := Lib.hid hb1; have HM1 := Lib.hid hm1; have HK1 := Lib.hid (HK.out.trans hk1)
        clear hb1 hm1
        go_wp2_with (first
          | (go_at_call 24; refine (lock_lit 2 2 4 0 2 l 3 _ HRD.out _).mono ?_; rintro e w5 ⟨rfl, hk5⟩; clear m0 m1 m2 m3 m4 c0 c1 c2 c3 c4 r0 r1 r2 r3 r4 f0 f1 f2 f3 f4 g0 g1 g2 g3 g4 z1 z2; have hb5 := HB1.out.no hk5; have hm5 := HM1.out.keep hk5 (fun f => f) (fun _ _ f => f); obtain ⟨⟨m0, m1, m2, m3, m4⟩, ⟨c0, c1, c2, c3, c4⟩, ⟨r0, r1, r2, r3, r4⟩, ⟨f0, f1, f2, f3, f4⟩, ⟨g0, g1, g2, g3, g4⟩, z1, z2⟩ := hb5.facts; have HB5 := Lib.hid hb5; have HM5 := Lib.hid hm5; clear hb5 hm5)
          | (go_at_call 73; have hct := HOC.out _ HM5.out; refine hct.mono ?_; clear hct; rintro e w4 ⟨rfl, hm, hk4⟩; have hb4 := HB5.out.own hk4 ha HV.out; clear m0 m1 m2 m3 m4 c0 c1 c2 c3 c4 r0 r1 r2 r3 r4 f0 f1 f2 f3 f4 g0 g1 g2 g3 g4 z1 z2; obtain ⟨⟨m0, m1, m2, m3, m4⟩, ⟨c0, c1, c2, c3, c4⟩, ⟨r0, r1, r2, r3, r4⟩, ⟨f0, f1, f2, f3, f4⟩, ⟨g0, g1, g2, g3, g4⟩, z1, z2⟩ := hb4.facts; have HB4 := Lib.hid hb4; have hkk : Keeps (own2m a v) w w4 := (HK1.out.trans hk5).no.trans hk4; clear hb4))
        refine bodyPost_ret (v := .agg #[.int .i64 t, .int .i64 l, .int .i64 (outI s1), .bool true, .int .i64 x1]) (by simp [results, Try.results45, go_sem, *]) rfl ⟨rfl, ?_, ?_⟩
        · repeat (first | (with_reducible exact hm) | refine MemT.set (B := B) ?_ ha HV.out _ (by show B ≤ _; dsimp only; omega) _)
        · repeat (first | (with_reducible exact hkk) | refine kset HB.out ?_ _ (by show B ≤ _; dsimp only; omega) _)
      · have hoc := fun W (h : MemAt W a v M) => out8_any t l 12 x a v M M1 s1 x1 W ht hl (by omega) HD.out h hl48
        have HOC := Lib.hid hoc
        clear hoc
        have hbx := bx_new w 2 2 4 0 2 t l 12 true x 24
        have hk : Keeps NoS w (((w.alloc (.cells #[.int .i64 2, .int .i64 2, .int .i64 4, .int .i64 0, .int .i64 2] 24)).alloc (.cells #[.int .i64 t, .int .i64 l, .int .i64 12, .bool true, .int .i64 x] 37)).alloc (.cells #[.int .i64 0, .int .i64 0, .int .i64 0, .bool false, .int .i64 0] 37)) := (((Keeps.refl NoS w).alloc _).alloc _).alloc _
        have ha := blk_lt hA.hd
        have hv : ∀ g, v.ownBlock = some g → g < w.heap.size := fun g hg => hA.own_lt hg
        have hA2 := hA.keep hk (fun f => f) (fun _ _ f => f)
        obtain ⟨B, hB⟩ : ∃ B, w.heap.size = B := ⟨_, rfl⟩
        rw [hB] at hbx hv ha
        have HB := Lib.hid hB; have HA2 := Lib.hid hA2; have HK := Lib.hid hk; have HV := Lib.hid hv; have HBX := Lib.hid hbx; have HL := Lib.hid hl48
        clear hB hA2 hk hv hbx hl48 hA
        go_enter Try.func45, Try.ntmps45
        go_wp2_with fail
        (try rw [HB.out])
        refine (rwfits_any t l 12 true x a v M _ HA2.out HL.out).mono ?_
        rw [HOK.out]
        rintro e w1 ⟨rfl, hk1⟩
        have hb1 := HBX.out.no hk1
        have hm1 := HA2.out.keep hk1 (fun f => f) (fun _ _ f => f)
        obtain ⟨⟨m0, m1, m2, m3, m4⟩, ⟨c0, c1, c2, c3, c4⟩, ⟨r0, r1, r2, r3, r4⟩, ⟨f0, f1, f2, f3, f4⟩, ⟨g0, g1, g2, g3, g4⟩, z1, z2⟩ := hb1.facts
        have HB1 := Lib.hid hb1; have HM1 := Lib.hid hm1; have HK1 := Lib.hid (HK.out.trans hk1)
        clear hb1 hm1
        go_wp2_with (first
          | (go_at_call 24; refine (lock_lit 2 2 4 0 2 l 3 _ HRD.out _).mono ?_; rintro e w5 ⟨rfl, hk5⟩; clear m0 m1 m2 m3 m4 c0 c1 c2 c3 c4 r0 r1 r2 r3 r4 f0 f1 f2 f3 f4 g0 g1 g2 g3 g4 z1 z2; have hb5 := HB1.out.no hk5; have hm5 := HM1.out.keep hk5 (fun f => f) (fun _ _ f => f); obtain ⟨⟨m0, m1, m2, m3, m4⟩, ⟨c0, c1, c2, c3, c4⟩, ⟨r0, r1, r2, r3, r4⟩, ⟨f0, f1, f2, f3, f4⟩, ⟨g0, g1, g2, g3, g4⟩, z1, z2⟩ := hb5.facts; have HB5 := Lib.hid hb5; have HM5 := Lib.hid hm5; clear hb5 hm5)
          | (go_at_call 73; have hct := HOC.out _ HM5.out; refine hct.mono ?_; clear hct; rintro e w4 ⟨rfl, hm, hk4⟩; have hb4 := HB5.out.own hk4 ha HV.out; clear m0 m1 m2 m3 m4 c0 c1 c2 c3 c4 r0 r1 r2 r3 r4 f0 f1 f2 f3 f4 g0 g1 g2 g3 g4 z1 z2; obtain ⟨⟨m0, m1, m2, m3, m4⟩, ⟨c0, c1, c2, c3, c4⟩, ⟨r0, r1, r2, r3, r4⟩, ⟨f0, f1, f2, f3, f4⟩, ⟨g0, g1, g2, g3, g4⟩, z1, z2⟩ := hb4.facts; have HB4 := Lib.hid hb4; have hkk : Keeps (own2m a v) w w4 := (HK1.out.trans hk5).no.trans hk4; clear hb4))
        refine bodyPost_ret (v := .agg #[.int .i64 t, .int .i64 l, .int .i64 (outI s1), .bool true, .int .i64 x1]) (by simp [results, Try.results45, go_sem, *]) rfl ⟨rfl, ?_, ?_⟩
        · repeat (first | (with_reducible exact hm) | refine MemT.set (B := B) ?_ ha HV.out _ (by show B ≤ _; dsimp only; omega) _)
        · repeat (first | (with_reducible exact hkk) | refine kset HB.out ?_ _ (by show B ≤ _; dsimp only; omega) _)
      · have hoc := fun W (h : MemAt W a v M) => out8_any t l 13 x a v M M1 s1 x1 W ht hl (by omega) HD.out h hl48
        have HOC := Lib.hid hoc
        clear hoc
        have hbx := bx_new w 2 2 4 0 2 t l 13 true x 24
        have hk : Keeps NoS w (((w.alloc (.cells #[.int .i64 2, .int .i64 2, .int .i64 4, .int .i64 0, .int .i64 2] 24)).alloc (.cells #[.int .i64 t, .int .i64 l, .int .i64 13, .bool true, .int .i64 x] 37)).alloc (.cells #[.int .i64 0, .int .i64 0, .int .i64 0, .bool false, .int .i64 0] 37)) := (((Keeps.refl NoS w).alloc _).alloc _).alloc _
        have ha := blk_lt hA.hd
        have hv : ∀ g, v.ownBlock = some g → g < w.heap.size := fun g hg => hA.own_lt hg
        have hA2 := hA.keep hk (fun f => f) (fun _ _ f => f)
        obtain ⟨B, hB⟩ : ∃ B, w.heap.size = B := ⟨_, rfl⟩
        rw [hB] at hbx hv ha
        have HB := Lib.hid hB; have HA2 := Lib.hid hA2; have HK := Lib.hid hk; have HV := Lib.hid hv; have HBX := Lib.hid hbx; have HL := Lib.hid hl48
        clear hB hA2 hk hv hbx hl48 hA
        go_enter Try.func45, Try.ntmps45
        go_wp2_with fail
        (try rw [HB.out])
        refine (rwfits_any t l 13 true x a v M _ HA2.out HL.out).mono ?_
        rw [HOK.out]
        rintro e w1 ⟨rfl, hk1⟩
        have hb1 := HBX.out.no hk1
        have hm1 := HA2.out.keep hk1 (fun f => f) (fun _ _ f => f)
        obtain ⟨⟨m0, m1, m2, m3, m4⟩, ⟨c0, c1, c2, c3, c4⟩, ⟨r0, r1, r2, r3, r4⟩, ⟨f0, f1, f2, f3, f4⟩, ⟨g0, g1, g2, g3, g4⟩, z1, z2⟩ := hb1.facts
        have HB1 := Lib.hid hb1; have HM1 := Lib.hid hm1; have HK1 := Lib.hid (HK.out.trans hk1)
        clear hb1 hm1
        go_wp2_with (first
          | (go_at_call 24; refine (lock_lit 2 2 4 0 2 l 3 _ HRD.out _).mono ?_; rintro e w5 ⟨rfl, hk5⟩; clear m0 m1 m2 m3 m4 c0 c1 c2 c3 c4 r0 r1 r2 r3 r4 f0 f1 f2 f3 f4 g0 g1 g2 g3 g4 z1 z2; have hb5 := HB1.out.no hk5; have hm5 := HM1.out.keep hk5 (fun f => f) (fun _ _ f => f); obtain ⟨⟨m0, m1, m2, m3, m4⟩, ⟨c0, c1, c2, c3, c4⟩, ⟨r0, r1, r2, r3, r4⟩, ⟨f0, f1, f2, f3, f4⟩, ⟨g0, g1, g2, g3, g4⟩, z1, z2⟩ := hb5.facts; have HB5 := Lib.hid hb5; have HM5 := Lib.hid hm5; clear hb5 hm5)
          | (go_at_call 73; have hct := HOC.out _ HM5.out; refine hct.mono ?_; clear hct; rintro e w4 ⟨rfl, hm, hk4⟩; have hb4 := HB5.out.own hk4 ha HV.out; clear m0 m1 m2 m3 m4 c0 c1 c2 c3 c4 r0 r1 r2 r3 r4 f0 f1 f2 f3 f4 g0 g1 g2 g3 g4 z1 z2; obtain ⟨⟨m0, m1, m2, m3, m4⟩, ⟨c0, c1, c2, c3, c4⟩, ⟨r0, r1, r2, r3, r4⟩, ⟨f0, f1, f2, f3, f4⟩, ⟨g0, g1, g2, g3, g4⟩, z1, z2⟩ := hb4.facts; have HB4 := Lib.hid hb4; have hkk : Keeps (own2m a v) w w4 := (HK1.out.trans hk5).no.trans hk4; clear hb4))
        refine bodyPost_ret (v := .agg #[.int .i64 t, .int .i64 l, .int .i64 (outI s1), .bool true, .int .i64 x1]) (by simp [results, Try.results45, go_sem, *]) rfl ⟨rfl, ?_, ?_⟩
        · repeat (first | (with_reducible exact hm) | refine MemT.set (B := B) ?_ ha HV.out _ (by show B ≤ _; dsimp only; omega) _)
        · repeat (first | (with_reducible exact hkk) | refine kset HB.out ?_ _ (by show B ≤ _; dsimp only; omega) _)
      · have hoc := fun W (h : MemAt W a v M) => out8_any t l 14 x a v M M1 s1 x1 W ht hl (by omega) HD.out h hl48
        have HOC := Lib.hid hoc
        clear hoc
        have hbx := bx_new w 2 2 4 0 2 t l 14 true x 24
        have hk : Keeps NoS w (((w.alloc (.cells #[.int .i64 2, .int .i64 2, .int .i64 4, .int .i64 0, .int .i64 2] 24)).alloc (.cells #[.int .i64 t, .int .i64 l, .int .i64 14, .bool true, .int .i64 x] 37)).alloc (.cells #[.int .i64 0, .int .i64 0, .int .i64 0, .bool false, .int .i64 0] 37)) := (((Keeps.refl NoS w).alloc _).alloc _).alloc _
        have ha := blk_lt hA.hd
        have hv : ∀ g, v.ownBlock = some g → g < w.heap.size := fun g hg => hA.own_lt hg
        have hA2 := hA.keep hk (fun f => f) (fun _ _ f => f)
        obtain ⟨B, hB⟩ : ∃ B, w.heap.size = B := ⟨_, rfl⟩
        rw [hB] at hbx hv ha
        have HB := Lib.hid hB; have HA2 := Lib.hid hA2; have HK := Lib.hid hk; have HV := Lib.hid hv; have HBX := Lib.hid hbx; have HL := Lib.hid hl48
        clear hB hA2 hk hv hbx hl48 hA
        go_enter Try.func45, Try.ntmps45
        go_wp2_with fail
        (try rw [HB.out])
        refine (rwfits_any t l 14 true x a v M _ HA2.out HL.out).mono ?_
        rw [HOK.out]
        rintro e w1 ⟨rfl, hk1⟩
        have hb1 := HBX.out.no hk1
        have hm1 := HA2.out.keep hk1 (fun f => f) (fun _ _ f => f)
        obtain ⟨⟨m0, m1, m2, m3, m4⟩, ⟨c0, c1, c2, c3, c4⟩, ⟨r0, r1, r2, r3, r4⟩, ⟨f0, f1, f2, f3, f4⟩, ⟨g0, g1, g2, g3, g4⟩, z1, z2⟩ := hb1.facts
        have HB1 := Lib.hid hb1; have HM1 := Lib.hid hm1; have HK1 := Lib.hid (HK.out.trans hk1)
        clear hb1 hm1
        go_wp2_with (first
          | (go_at_call 24; refine (lock_lit 2 2 4 0 2 l 3 _ HRD.out _).mono ?_; rintro e w5 ⟨rfl, hk5⟩; clear m0 m1 m2 m3 m4 c0 c1 c2 c3 c4 r0 r1 r2 r3 r4 f0 f1 f2 f3 f4 g0 g1 g2 g3 g4 z1 z2; have hb5 := HB1.out.no hk5; have hm5 := HM1.out.keep hk5 (fun f => f) (fun _ _ f => f); obtain ⟨⟨m0, m1, m2, m3, m4⟩, ⟨c0, c1, c2, c3, c4⟩, ⟨r0, r1, r2, r3, r4⟩, ⟨f0, f1, f2, f3, f4⟩, ⟨g0, g1, g2, g3, g4⟩, z1, z2⟩ := hb5.facts; have HB5 := Lib.hid hb5; have HM5 := Lib.hid hm5; clear hb5 hm5)
          | (go_at_call 73; have hct := HOC.out _ HM5.out; refine hct.mono ?_; clear hct; rintro e w4 ⟨rfl, hm, hk4⟩; have hb4 := HB5.out.own hk4 ha HV.out; clear m0 m1 m2 m3 m4 c0 c1 c2 c3 c4 r0 r1 r2 r3 r4 f0 f1 f2 f3 f4 g0 g1 g2 g3 g4 z1 z2; obtain ⟨⟨m0, m1, m2, m3, m4⟩, ⟨c0, c1, c2, c3, c4⟩, ⟨r0, r1, r2, r3, r4⟩, ⟨f0, f1, f2, f3, f4⟩, ⟨g0, g1, g2, g3, g4⟩, z1, z2⟩ := hb4.facts; have HB4 := Lib.hid hb4; have hkk : Keeps (own2m a v) w w4 := (HK1.out.trans hk5).no.trans hk4; clear hb4))
        refine bodyPost_ret (v := .agg #[.int .i64 t, .int .i64 l, .int .i64 (outI s1), .bool true, .int .i64 x1]) (by simp [results, Try.results45, go_sem, *]) rfl ⟨rfl, ?_, ?_⟩
        · repeat (first | (with_reducible exact hm) | refine MemT.set (B := B) ?_ ha HV.out _ (by show B ≤ _; dsimp only; omega) _)
        · repeat (first | (with_reducible exact hkk) | refine kset HB.out ?_ _ (by show B ≤ _; dsimp only; omega) _)
  rw [show wTake M t l s r x = (M, ⟨t, l, s, r, x⟩) by unfold wTake; rw [if_neg hs05, if_neg h10, if_neg (fun e => hs14 e.2)]]
  unfold handV
  dsimp only
  have e0 : (s == 0) = false := by simp; omega
  have e1 : (s == 1) = false := by simp; omega
  have e2 : (s == 2) = false := by simp; omega
  have e3 : (s == 3) = false := by simp; omega
  have e4 : (s == 4) = false := by simp; omega
  have e5 : (s == 5) = false := by simp; omega
  have e10 : (s == 10) = false := by simp; omega
  have e11 : (s == 11) = false := by simp; omega
  have e12 : (s == 12) = false := by simp; omega
  have e13 : (s == 13) = false := by simp; omega
  have e14 : (s == 14) = false := by simp; omega
  clear hs05 h10 hs14
  have hbx := bx_new w 2 2 4 0 2 t l s r x 24
  have hk : Keeps NoS w (((w.alloc (.cells #[.int .i64 2, .int .i64 2, .int .i64 4, .int .i64 0, .int .i64 2] 24)).alloc (.cells #[.int .i64 t, .int .i64 l, .int .i64 s, .bool r, .int .i64 x] 37)).alloc (.cells #[.int .i64 0, .int .i64 0, .int .i64 0, .bool false, .int .i64 0] 37)) := (((Keeps.refl NoS w).alloc _).alloc _).alloc _
  have ha := blk_lt hA.hd
  have hv : ∀ g, v.ownBlock = some g → g < w.heap.size := fun g hg => hA.own_lt hg
  have hA2 := hA.keep hk (fun f => f) (fun _ _ f => f)
  obtain ⟨B, hB⟩ : ∃ B, w.heap.size = B := ⟨_, rfl⟩
  rw [hB] at hbx hv ha
  have HB := Lib.hid hB; have HA2 := Lib.hid hA2; have HK := Lib.hid hk; have HV := Lib.hid hv; have HBX := Lib.hid hbx; have HL := Lib.hid hl48
  clear hB hA2 hk hv hbx hl48 hA
  go_enter Try.func45, Try.ntmps45
  go_wp2_with fail
  (try rw [HB.out])
  refine (rwfits_any t l s r x a v M _ HA2.out HL.out).mono ?_
  rw [HOK.out]
  rintro e w1 ⟨rfl, hk1⟩
  have hb1 := HBX.out.no hk1
  have hm1 := HA2.out.keep hk1 (fun f => f) (fun _ _ f => f)
  obtain ⟨⟨m0, m1, m2, m3, m4⟩, ⟨c0, c1, c2, c3, c4⟩, ⟨r0, r1, r2, r3, r4⟩, ⟨f0, f1, f2, f3, f4⟩, ⟨g0, g1, g2, g3, g4⟩, z1, z2⟩ := hb1.facts
  have HB1 := Lib.hid hb1; have HM1 := Lib.hid hm1; have HK1 := Lib.hid (HK.out.trans hk1)
  clear hb1 hm1
  go_wp2_with (first
    | (go_at_call 24; refine (lock_lit 2 2 4 0 2 l 3 _ HRD.out _).mono ?_; rintro e w5 ⟨rfl, hk5⟩; clear m0 m1 m2 m3 m4 c0 c1 c2 c3 c4 r0 r1 r2 r3 r4 f0 f1 f2 f3 f4 g0 g1 g2 g3 g4 z1 z2; have hb5 := HB1.out.no hk5; have hm5 := HM1.out.keep hk5 (fun f => f) (fun _ _ f => f); obtain ⟨⟨m0, m1, m2, m3, m4⟩, ⟨c0, c1, c2, c3, c4⟩, ⟨r0, r1, r2, r3, r4⟩, ⟨f0, f1, f2, f3, f4⟩, ⟨g0, g1, g2, g3, g4⟩, z1, z2⟩ := hb5.facts; have HB5 := Lib.hid hb5; have HM5 := Lib.hid hm5; clear hb5 hm5))
  have hm := HM5.out
  have hkk : Keeps (own2m a v) w w5 := (HK1.out.trans hk5).no
  refine bodyPost_ret (v := .agg #[.int .i64 t, .int .i64 l, .int .i64 s, .bool r, .int .i64 x]) (by simp [results, Try.results45, go_sem, *]) rfl ⟨rfl, ?_, ?_⟩
  · repeat (first | (with_reducible exact hm) | refine MemT.set (B := B) ?_ ha HV.out _ (by show B ≤ _; dsimp only; omega) _)
  · repeat (first | (with_reducible exact hkk) | refine kset HB.out ?_ _ (by show B ≤ _; dsimp only; omega) _)
set_option maxHeartbeats 20000000 in
set_option maxRecDepth 100000 in
theorem rwdrop8_yes (t l : Nat) (s : Int) (r : Bool) (x : Int) (a : Nat) (v : Value) (M : MemS) (w : World) (ht : t < 4) (hl : l < 2) (hA : MemAt w a v M) (hl48 : M.L.length = 48) : Calls Try.prog 43 #[.agg #[.int .i64 2, .int .i64 2, .int .i64 4, .int .i64 0, .int .i64 2], .pointer (some ⟨a, 0, none⟩), .agg #[.int .i64 t, .int .i64 l, .int .i64 s, .bool r, .int .i64 x]] w fun e w' => e = .returned (handV (wDrop M t l s r x).2) ∧ MemAt w' a v (wDrop M t l s r x).1 ∧ Keeps (own2m a v) w w' := by
  have HOK := Lib.hid (okH_nat ht hl)
  obtain ⟨A, hAA⟩ : ∃ A : Int, ((rdA l : Nat) : Int) = A := ⟨_, rfl⟩
  have hrd := rdA_eq hl
  rw [hAA] at hrd
  have HRD := Lib.hid hrd; have HAA := Lib.hid hAA
  have HRL := Lib.hid (show rdA l < M.L.length by rw [hl48]; exact rdA_lt hl)
  clear hrd hAA
  cases r with
  | false =>
    obtain ⟨M1, s1, x1, hd⟩ := mDrop_hnd M t l s false x
    rw [show wDrop M t l s false x = (M1, ⟨t, l, s1, false, x1⟩) from hd]
    have HD := Lib.hid hd
    clear hd
    unfold handV
    dsimp only
    have hbx := bx_new w 2 2 4 0 2 t l s false x 24
    have hk : Keeps NoS w (((w.alloc (.cells #[.int .i64 2, .int .i64 2, .int .i64 4, .int .i64 0, .int .i64 2] 24)).alloc (.cells #[.int .i64 t, .int .i64 l, .int .i64 s, .bool false, .int .i64 x] 37)).alloc (.cells #[.int .i64 0, .int .i64 0, .int .i64 0, .bool false, .int .i64 0] 37)) := (((Keeps.refl NoS w).alloc _).alloc _).alloc _
    have ha := blk_lt hA.hd
    have hv : ∀ g, v.ownBlock = some g → g < w.heap.size := fun g hg => hA.own_lt hg
    have hA2 := hA.keep hk (fun f => f) (fun _ _ f => f)
    obtain ⟨B, hB⟩ : ∃ B, w.heap.size = B := ⟨_, rfl⟩
    rw [hB] at hbx hv ha
    have HB := Lib.hid hB; have HA2 := Lib.hid hA2; have HK := Lib.hid hk; have HV := Lib.hid hv; have HBX := Lib.hid hbx; have HL := Lib.hid hl48
    clear hB hA2 hk hv hbx hl48 hA
    go_enter Try.func43, Try.ntmps43
    go_wp2_with fail
    (try rw [HB.out])
    refine (rwfits_any t l s false x a v M _ HA2.out HL.out).mono ?_
    rw [HOK.out]
    rintro e w1 ⟨rfl, hk1⟩
    have hb1 := HBX.out.no hk1
    have hm1 := HA2.out.keep hk1 (fun f => f) (fun _ _ f => f)
    obtain ⟨⟨m0, m1, m2, m3, m4⟩, ⟨c0, c1, c2, c3, c4⟩, ⟨r0, r1, r2, r3, r4⟩, ⟨f0, f1, f2, f3, f4⟩, ⟨g0, g1, g2, g3, g4⟩, z1, z2⟩ := hb1.facts
    have HB1 := Lib.hid hb1; have HM1 := Lib.hid hm1; have HK1 := Lib.hid (HK.out.trans hk1)
    clear hb1 hm1
    go_wp2_with (first
      | (go_at_call 32; have hct := drop8_yes t l s false x a v M _ ht hl HM1.out HL.out; rw [HD.out] at hct; unfold handV at hct; dsimp only at hct; refine hct.mono ?_; clear hct; rintro e w4 ⟨rfl, hm, hk4⟩; have hb4 := HB1.out.own hk4 ha HV.out; clear m0 m1 m2 m3 m4 c0 c1 c2 c3 c4 r0 r1 r2 r3 r4 f0 f1 f2 f3 f4 g0 g1 g2 g3 g4 z1 z2; obtain ⟨⟨m0, m1, m2, m3, m4⟩, ⟨c0, c1, c2, c3, c4⟩, ⟨r0, r1, r2, r3, r4⟩, ⟨f0, f1, f2, f3, f4⟩, ⟨g0, g1, g2, g3, g4⟩, z1, z2⟩ := hb4.facts; have HB4 := Lib.hid hb4; have hkk : Keeps (own2m a v) w w4 := HK1.out.no.trans hk4; clear hb4))
    refine bodyPost_ret (v := .agg #[.int .i64 t, .int .i64 l, .int .i64 s1, .bool false, .int .i64 x1]) (by simp [results, Try.results43, go_sem, *]) rfl ⟨rfl, ?_, ?_⟩
    · repeat (first | (with_reducible exact hm) | refine MemT.set (B := B) ?_ ha HV.out _ (by show B ≤ _; dsimp only; omega) _)
    · repeat (first | (with_reducible exact hkk) | refine kset HB.out ?_ _ (by show B ≤ _; dsimp only; omega) _)
  | true =>
    by_cases h9 : s = 9
    · subst h9
      rw [show wDrop M t l 9 true x = (M.add (rdA l) (-1), ⟨t, l, 0, true, x⟩) from rfl]
      unfold handV
      dsimp only
      have hbx := bx_new w 2 2 4 0 2 t l 9 true x 24
      have hk : Keeps NoS w (((w.alloc (.cells #[.int .i64 2, .int .i64 2, .int .i64 4, .int .i64 0, .int .i64 2] 24)).alloc (.cells #[.int .i64 t, .int .i64 l, .int .i64 9, .bool true, .int .i64 x] 37)).alloc (.cells #[.int .i64 0, .int .i64 0, .int .i64 0, .bool false, .int .i64 0] 37)) := (((Keeps.refl NoS w).alloc _).alloc _).alloc _
      have ha := blk_lt hA.hd
      have hv : ∀ g, v.ownBlock = some g → g < w.heap.size := fun g hg => hA.own_lt hg
      have hA2 := hA.keep hk (fun f => f) (fun _ _ f => f)
      obtain ⟨B, hB⟩ : ∃ B, w.heap.size = B := ⟨_, rfl⟩
      rw [hB] at hbx hv ha
      have HB := Lib.hid hB; have HA2 := Lib.hid hA2; have HK := Lib.hid hk; have HV := Lib.hid hv; have HBX := Lib.hid hbx; have HL := Lib.hid hl48
      clear hB hA2 hk hv hbx hl48 hA
      go_enter Try.func43, Try.ntmps43
      go_wp2_with fail
      (try rw [HB.out])
      refine (rwfits_any t l 9 true x a v M _ HA2.out HL.out).mono ?_
      rw [HOK.out]
      rintro e w1 ⟨rfl, hk1⟩
      have hb1 := HBX.out.no hk1
      have hm1 := HA2.out.keep hk1 (fun f => f) (fun _ _ f => f)
      obtain ⟨⟨m0, m1, m2, m3, m4⟩, ⟨c0, c1, c2, c3, c4⟩, ⟨r0, r1, r2, r3, r4⟩, ⟨f0, f1, f2, f3, f4⟩, ⟨g0, g1, g2, g3, g4⟩, z1, z2⟩ := hb1.facts
      have HB1 := Lib.hid hb1; have HM1 := Lib.hid hm1; have HK1 := Lib.hid (HK.out.trans hk1)
      clear hb1 hm1
      go_wp2_with (first
        | (go_at_call 24; refine (lock_lit 2 2 4 0 2 l 3 _ HRD.out _).mono ?_; rintro e w5 ⟨rfl, hk5⟩; clear m0 m1 m2 m3 m4 c0 c1 c2 c3 c4 r0 r1 r2 r3 r4 f0 f1 f2 f3 f4 g0 g1 g2 g3 g4 z1 z2; have hb5 := HB1.out.no hk5; have hm5 := HM1.out.keep hk5 (fun f => f) (fun _ _ f => f); obtain ⟨⟨m0, m1, m2, m3, m4⟩, ⟨c0, c1, c2, c3, c4⟩, ⟨r0, r1, r2, r3, r4⟩, ⟨f0, f1, f2, f3, f4⟩, ⟨g0, g1, g2, g3, g4⟩, z1, z2⟩ := hb5.facts; have HB5 := Lib.hid hb5; have HM5 := Lib.hid hm5; clear hb5 hm5)
        | (go_at_call 71; rw [← HAA.out]; refine (add_ok a v M (rdA l) (-1) _ HM5.out HRL.out).mono ?_; rintro e w4 ⟨rfl, hm, hk4⟩; have hb4 := HB5.out.own hk4 ha HV.out; clear m0 m1 m2 m3 m4 c0 c1 c2 c3 c4 r0 r1 r2 r3 r4 f0 f1 f2 f3 f4 g0 g1 g2 g3 g4 z1 z2; obtain ⟨⟨m0, m1, m2, m3, m4⟩, ⟨c0, c1, c2, c3, c4⟩, ⟨r0, r1, r2, r3, r4⟩, ⟨f0, f1, f2, f3, f4⟩, ⟨g0, g1, g2, g3, g4⟩, z1, z2⟩ := hb4.facts; have HB4 := Lib.hid hb4; have hkk : Keeps (own2m a v) w w4 := (HK1.out.trans hk5).no.trans hk4; clear hb4))
      refine bodyPost_ret (v := .agg #[.int .i64 t, .int .i64 l, .int .i64 0, .bool true, .int .i64 x]) (by simp [results, Try.results43, go_sem, *]) rfl ⟨rfl, ?_, ?_⟩
      · repeat (first | (with_reducible exact hm) | refine MemT.set (B := B) ?_ ha HV.out _ (by show B ≤ _; dsimp only; omega) _)
      · repeat (first | (with_reducible exact hkk) | refine kset HB.out ?_ _ (by show B ≤ _; dsimp only; omega) _)
    · rw [show wDrop M t l s true x = (M, ⟨t, l, s, true, x⟩) by unfold wDrop; rw [if_pos rfl, if_neg h9]]
      have h9' : (s == 9) = false := by simpa using h9
      clear h9
      unfold handV
      dsimp only
      have hbx := bx_new w 2 2 4 0 2 t l s true x 24
      have hk : Keeps NoS w (((w.alloc (.cells #[.int .i64 2, .int .i64 2, .int .i64 4, .int .i64 0, .int .i64 2] 24)).alloc (.cells #[.int .i64 t, .int .i64 l, .int .i64 s, .bool true, .int .i64 x] 37)).alloc (.cells #[.int .i64 0, .int .i64 0, .int .i64 0, .bool false, .int .i64 0] 37)) := (((Keeps.refl NoS w).alloc _).alloc _).alloc _
      have ha := blk_lt hA.hd
      have hv : ∀ g, v.ownBlock = some g → g < w.heap.size := fun g hg => hA.own_lt hg
      have hA2 := hA.keep hk (fun f => f) (fun _ _ f => f)
      obtain ⟨B, hB⟩ : ∃ B, w.heap.size = B := ⟨_, rfl⟩
      rw [hB] at hbx hv ha
      have HB := Lib.hid hB; have HA2 := Lib.hid hA2; have HK := Lib.hid hk; have HV := Lib.hid hv; have HBX := Lib.hid hbx; have HL := Lib.hid hl48
      clear hB hA2 hk hv hbx hl48 hA
      go_enter Try.func43, Try.ntmps43
      go_wp2_with fail
      (try rw [HB.out])
      refine (rwfits_any t l s true x a v M _ HA2.out HL.out).mono ?_
      rw [HOK.out]
      rintro e w1 ⟨rfl, hk1⟩
      have hb1 := HBX.out.no hk1
      have hm1 := HA2.out.keep hk1 (fun f => f) (fun _ _ f => f)
      obtain ⟨⟨m0, m1, m2, m3, m4⟩, ⟨c0, c1, c2, c3, c4⟩, ⟨r0, r1, r2, r3, r4⟩, ⟨f0, f1, f2, f3, f4⟩, ⟨g0, g1, g2, g3, g4⟩, z1, z2⟩ := hb1.facts
      have HB1 := Lib.hid hb1; have HM1 := Lib.hid hm1; have HK1 := Lib.hid (HK.out.trans hk1)
      clear hb1 hm1
      go_wp2_with fail
      have hm := HM1.out
      have hkk : Keeps (own2m a v) w w1 := HK1.out.no
      refine bodyPost_ret (v := .agg #[.int .i64 t, .int .i64 l, .int .i64 s, .bool true, .int .i64 x]) (by simp [results, Try.results43, go_sem, *]) rfl ⟨rfl, ?_, ?_⟩
      · repeat (first | (with_reducible exact hm) | refine MemT.set (B := B) ?_ ha HV.out _ (by show B ≤ _; dsimp only; omega) _)
      · repeat (first | (with_reducible exact hkk) | refine kset HB.out ?_ _ (by show B ≤ _; dsimp only; omega) _)
theorem rwtake8_any (t l s : Int) (r : Bool) (x : Int) (a : Nat) (v : Value) (M : MemS) (w : World) (hA : MemAt w a v M) (hl48 : M.L.length = 48) : Calls Try.prog 45 #[.agg #[.int .i64 2, .int .i64 2, .int .i64 4, .int .i64 0, .int .i64 2], .pointer (some ⟨a, 0, none⟩), .agg #[.int .i64 t, .int .i64 l, .int .i64 s, .bool r, .int .i64 x]] w fun e w' => e = .returned (handV (wTakeI M ⟨t, l, s, r, x⟩).2) ∧ MemAt w' a v (wTakeI M ⟨t, l, s, r, x⟩).1 ∧ Keeps (own2m a v) w w' := by
  cases h : okH t l with
  | false =>
    have e : wTakeI M ⟨t, l, s, r, x⟩ = (M, ⟨t, l, s, r, x⟩) := by unfold wTakeI; dsimp only; rw [h]; rfl
    rw [e]
    exact rwtake8_no t l s r x a v M w h hA hl48
  | true =>
    obtain ⟨a', b', rfl, rfl, ha, hb⟩ := okH_yes h
    rw [wTakeI_nat ha hb]
    exact rwtake8_yes a' b' s r x a v M w ha hb hA hl48
theorem rwdrop8_any (t l s : Int) (r : Bool) (x : Int) (a : Nat) (v : Value) (M : MemS) (w : World) (hA : MemAt w a v M) (hl48 : M.L.length = 48) : Calls Try.prog 43 #[.agg #[.int .i64 2, .int .i64 2, .int .i64 4, .int .i64 0, .int .i64 2], .pointer (some ⟨a, 0, none⟩), .agg #[.int .i64 t, .int .i64 l, .int .i64 s, .bool r, .int .i64 x]] w fun e w' => e = .returned (handV (wDropI M ⟨t, l, s, r, x⟩).2) ∧ MemAt w' a v (wDropI M ⟨t, l, s, r, x⟩).1 ∧ Keeps (own2m a v) w w' := by
  cases h : okH t l with
  | false =>
    have e : wDropI M ⟨t, l, s, r, x⟩ = (M, ⟨t, l, s, r, x⟩) := by unfold wDropI; dsimp only; rw [h]; rfl
    rw [e]
    exact rwdrop8_no t l s r x a v M w h hA hl48
  | true =>
    obtain ⟨a', b', rfl, rfl, ha, hb⟩ := okH_yes h
    rw [wDropI_nat ha hb]
    exact rwdrop8_yes a' b' s r x a v M w ha hb hA hl48
set_option maxHeartbeats 4000000 in
set_option maxRecDepth 100000 in
theorem inside8_any (n : Nat) (hn : n < 2) (a : Nat) (v : Value) (M : MemS) (w : World) (hA : MemAt w a v M) (hl48 : M.L.length = 48) : Calls Try.prog 42 #[.agg #[.int .i64 2, .int .i64 2, .int .i64 4, .int .i64 0, .int .i64 2], .pointer (some ⟨a, 0, none⟩), .int .i64 n] w fun e w' => e = .returned (.int .i64 (M.word (rdA n))) ∧ Keeps NoS w w' := by
  have hB := mapAt_new w 2 2 4 0 2 24
  have hk0 := (Keeps.refl NoS w).alloc (.cells #[.int .i64 2, .int .i64 2, .int .i64 4, .int .i64 0, .int .i64 2] 24)
  have hA' := hA.keep hk0 (fun f => f) (fun _ _ f => f)
  obtain ⟨B, hBe⟩ : ∃ B, w.heap.size = B := ⟨_, rfl⟩
  rw [hBe] at hB
  have HBE := Lib.hid hBe; have HB := Lib.hid hB; have HK0 := Lib.hid hk0; have HA := Lib.hid hA'; have HL := Lib.hid hl48
  clear hBe hk0 hA' hA hl48
  obtain ⟨c, hc⟩ : ∃ c, M.word (rdA n) = c := ⟨_, rfl⟩
  rw [hc]
  obtain ⟨A, hAA⟩ : ∃ A : Int, ((rdA n : Nat) : Int) = A := ⟨_, rfl⟩
  have hlk := rdA_eq hn
  rw [hAA] at hlk
  have hA0 : 0 ≤ A := by omega
  have HLK := Lib.hid hlk; have HC := Lib.hid hc; have HAA := Lib.hid hAA
  have HLT := Lib.hid (show rdA n < M.L.length by rw [HL.out]; exact rdA_lt hn)
  have hlen : ∀ W, MemAt W a v M → Calls Try.prog 57 #[.pointer (some ⟨a, 0, none⟩)] W fun e w' => e = .returned (.int .i64 48) ∧ W = w' := fun W h => by
    have h' := mlen_any a v M W h
    rw [HL.out] at h'
    exact h'
  have HLEN := Lib.hid hlen
  have hg : decide (A < 0) = false := decide_eq_false (by omega)
  clear hlk hc hAA hn hlen hA0
  obtain ⟨m0, m1, m2, m3, m4⟩ := hB
  go_enter Try.func42, Try.ntmps42
  go_wp2_with fail
  (try rw [HBE.out])
  refine (lock_lit 2 2 4 0 2 n 3 A HLK.out _).mono ?_
  rintro e w1 ⟨rfl, hk1⟩
  clear m0 m1 m2 m3 m4
  go_wp2_with fail
  have hbd := HB.out.keep (hk1.drew) (fun f => f)
  have had := HA.out.keep (hk1.drew) (fun f => f) (fun _ _ f => f)
  refine wp_region_held_drew (S := (fun w' => (w'.cell? ⟨B, 0, none⟩ = some (.int .i64 2) ∧ w'.cell? ⟨B, 1, none⟩ = some (.int .i64 2) ∧ w'.cell? ⟨B, 2, none⟩ = some (.int .i64 4) ∧ w'.cell? ⟨B, 3, none⟩ = some (.int .i64 0) ∧ w'.cell? ⟨B, 4, none⟩ = some (.int .i64 2)))) (by kernel_rfl) (map5 hbd) (fun hHeld => ?_)
  refine wpAnyH_take (i := 0) (v := ?_) (by simp only [List.getElem?_toArray, List.getElem?_cons_succ, List.getElem?_cons_zero]; rfl) (by kernel_rfl) (by kernel_rfl) (by kernel_rfl) (by exact fun _ _ _ h => h) (Or.inl ⟨by rfl, ?_⟩) hHeld ?_
  rotate_left
  · intro w hSw; (try dsimp only at hSw); go_simp; (try with_reducible rfl)
  try simp only [Act.put, List.setIfInBounds_toArray, List.set_cons_zero, List.set_cons_succ]
  refine wpAnyH_take (i := 1) (v := ?_) (by simp only [List.getElem?_toArray, List.getElem?_cons_succ, List.getElem?_cons_zero]; rfl) (by kernel_rfl) (by kernel_rfl) (by kernel_rfl) (by exact fun _ _ _ h => h) (Or.inl ⟨by rfl, ?_⟩) hHeld ?_
  rotate_left
  · intro w hSw; (try dsimp only at hSw); go_simp; (try with_reducible rfl)
  try simp only [Act.put, List.setIfInBounds_toArray, List.set_cons_zero, List.set_cons_succ]
  refine wpAnyH_take (i := 2) (v := ?_) (by simp only [List.getElem?_toArray, List.getElem?_cons_succ, List.getElem?_cons_zero]; rfl) (by kernel_rfl) (by kernel_rfl) (by kernel_rfl) (by exact fun _ _ _ h => h) (Or.inl ⟨by rfl, ?_⟩) hHeld ?_
  rotate_left
  · intro w hSw; (try dsimp only at hSw); go_simp; (try with_reducible rfl)
  try simp only [Act.put, List.setIfInBounds_toArray, List.set_cons_zero, List.set_cons_succ]
  refine wpAnyH_take (i := 3) (v := ?_) (by simp only [List.getElem?_toArray, List.getElem?_cons_succ, List.getElem?_cons_zero]; rfl) (by kernel_rfl) (by kernel_rfl) (by kernel_rfl) (by exact fun _ _ _ h => h) (Or.inl ⟨by rfl, ?_⟩) hHeld ?_
  rotate_left
  · intro w hSw; (try dsimp only at hSw); go_simp; (try with_reducible rfl)
  try simp only [Act.put, List.setIfInBounds_toArray, List.set_cons_zero, List.set_cons_succ]
  refine wpAnyH_take (i := 5) (v := ?_) (by simp only [List.getElem?_toArray, List.getElem?_cons_succ, List.getElem?_cons_zero]; rfl) (by kernel_rfl) (by kernel_rfl) (by kernel_rfl) (by exact fun _ _ _ h => h) (Or.inl ⟨by rfl, ?_⟩) hHeld ?_
  rotate_left
  · intro w hSw; (try dsimp only at hSw); go_simp; (try with_reducible rfl)
  try simp only [Act.put, List.setIfInBounds_toArray, List.set_cons_zero, List.set_cons_succ]
  refine wpAnyH_ready (rs := [4]) (by kernel_rfl) (by simp) ?_
  refine AllReadyH.cons (by simp only [List.getElem?_toArray, List.getElem?_cons_succ, List.getElem?_cons_zero]; rfl) (fun kC hkC => ?_) AllReadyH.nil
  go_simp
  refine (HLEN.out _ had).mono ?_; rintro e w2 ⟨rfl, rfl⟩
  (try go_wp2_with fail)
  refine hkC.out _ _ (map5 hbd) (fun hHeld => ?_)
  clear hkC kC
  try simp only [Act.put, List.setIfInBounds_toArray, List.set_cons_zero, List.set_cons_succ]
  refine wpAnyH_ready (rs := [6]) (by kernel_rfl) (by simp) ?_
  refine AllReadyH.cons (by simp only [List.getElem?_toArray, List.getElem?_cons_succ, List.getElem?_cons_zero]; rfl) (fun kC hkC => ?_) AllReadyH.nil
  go_simp
  refine (size_lit 2 2 4 0 2 48 size8m _).mono ?_; rintro e w3 ⟨rfl, hk3⟩; have hb3 := hbd.keep hk3 (fun f => f); have ha3 := had.keep hk3 (fun f => f) (fun _ _ f => f)
  (try go_wp2_with fail)
  refine hkC.out _ _ (map5 hb3) (fun hHeld => ?_)
  clear hkC kC
  try simp only [Act.put, List.setIfInBounds_toArray, List.set_cons_zero, List.set_cons_succ]
  refine wpAnyH_take (i := 7) (v := ?_) (by simp only [List.getElem?_toArray, List.getElem?_cons_succ, List.getElem?_cons_zero]; rfl) (by kernel_rfl) (by kernel_rfl) (by kernel_rfl) (by exact fun _ _ _ h => h) (Or.inl ⟨by rfl, ?_⟩) hHeld ?_
  rotate_left
  · intro w hSw; (try dsimp only at hSw); go_simp; (try with_reducible rfl)
  try simp only [Act.put, List.setIfInBounds_toArray, List.set_cons_zero, List.set_cons_succ]
  refine wpAnyH_take (i := 8) (v := ?_) (by simp only [List.getElem?_toArray, List.getElem?_cons_succ, List.getElem?_cons_zero]; rfl) (by kernel_rfl) (by kernel_rfl) (by kernel_rfl) (by exact fun _ _ _ h => h) (Or.inl ⟨by rfl, ?_⟩) hHeld ?_
  rotate_left
  · intro w hSw; (try dsimp only at hSw); go_simp; (try with_reducible rfl)
  try simp only [Act.put, List.setIfInBounds_toArray, List.set_cons_zero, List.set_cons_succ]
  refine wpAnyH_done (by kernel_rfl) ?_ _
  have HA3 := Lib.hid ha3
  clear ha3 had hbd hb3
  go_wp2_with (go_at_call 23; rw [← HAA.out]; refine (peek_at a v M (rdA n) _ HA3.out HLT.out).mono ?_; rw [HC.out]; rintro e w5 ⟨rfl, rfl⟩)
  go_ret
  exact ⟨rfl, (HK0.out.trans hk1.drew).trans hk3⟩
end Go.Proofs.Ytjchcmomppfilaa
