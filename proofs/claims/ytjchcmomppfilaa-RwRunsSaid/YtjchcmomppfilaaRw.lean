/- rwq.out at layer 8's map. -/
import Derived.Test.YtjchcmomppfilaaRwFits
namespace Go.Proofs.Ytjchcmomppfilaa
open Go.RowKit
set_option maxHeartbeats 20000000 in
set_option maxRecDepth 100000 in
theorem out8_any (t l : Nat) (s : Int) (x : Int) (a : Nat) (v : Value) (M M4 : MemS) (s4 x4 : Int) (w : World) (ht : t < 4) (hl : l < 2) (hs : 11 ≤ s ∧ s ≤ 14) (hd : mDrop M t l (inI s) true x = (M4, ⟨t, l, s4, true, x4⟩)) (hA : MemAt w a v M) (hl48 : M.L.length = 48) :
    Calls Try.prog 73 #[.agg #[.int .i64 2, .int .i64 2, .int .i64 4, .int .i64 0, .int .i64 2], .pointer (some ⟨a, 0, none⟩), .agg #[.int .i64 t, .int .i64 l, .int .i64 s, .bool true, .int .i64 x]] w fun e w' => e = .returned (.agg #[.int .i64 t, .int .i64 l, .int .i64 (outI s4), .bool true, .int .i64 x4]) ∧ MemAt w' a v M4 ∧ Keeps (own2m a v) w w' := by
  have hto := mDrop_to hd (inI_is s)
  have hin := fun W => inner_any s hs W
  obtain ⟨si, hsi⟩ : ∃ z, inI s = z := ⟨_, rfl⟩
  rw [hsi] at hd hin
  have HIN := Lib.hid hin; have HD := Lib.hid hd; have HSI := Lib.hid hsi
  obtain ⟨so, hso⟩ : ∃ z, outI s4 = z := ⟨_, rfl⟩
  rw [hso]
  have HSO := Lib.hid hso
  clear hso
  have hs0 := hs.1; have hs1 := hs.2
  have hbS := bx_new w 2 2 4 0 2 t l si true x 24
  have hkS : Keeps NoS w (((w.alloc (.cells #[.int .i64 2, .int .i64 2, .int .i64 4, .int .i64 0, .int .i64 2] 24)).alloc (.cells #[.int .i64 t, .int .i64 l, .int .i64 si, .bool true, .int .i64 x] 37)).alloc (.cells #[.int .i64 0, .int .i64 0, .int .i64 0, .bool false, .int .i64 0] 37)) := (((Keeps.refl NoS w).alloc _).alloc _).alloc _
  have hAS := hA.keep hkS (fun f => f) (fun _ _ f => f)
  have HBS := Lib.hid hbS; have HKS := Lib.hid hkS; have HAS := Lib.hid hAS
  clear hd hin hsi hs hbS hkS hAS
  have hbx := bx_new w 2 2 4 0 2 t l s true x 24
  have hk : Keeps NoS w (((w.alloc (.cells #[.int .i64 2, .int .i64 2, .int .i64 4, .int .i64 0, .int .i64 2] 24)).alloc (.cells #[.int .i64 t, .int .i64 l, .int .i64 s, .bool true, .int .i64 x] 37)).alloc (.cells #[.int .i64 0, .int .i64 0, .int .i64 0, .bool false, .int .i64 0] 37)) := (((Keeps.refl NoS w).alloc _).alloc _).alloc _
  have ha := blk_lt hA.hd
  have hv : ∀ g, v.ownBlock = some g → g < w.heap.size := fun g hg => hA.own_lt hg
  have hA2 := hA.keep hk (fun f => f) (fun _ _ f => f)
  obtain ⟨B, hB⟩ : ∃ B, w.heap.size = B := ⟨_, rfl⟩
  rw [hB] at hbx hv ha
  have HB := Lib.hid hB; have HA2 := Lib.hid hA2; have HK := Lib.hid hk; have HV := Lib.hid hv; have HBX := Lib.hid hbx; have HL := Lib.hid hl48
  clear hB hA2 hk hv hbx hl48 hA
  have hdr := fun W (h : MemAt W a v M) => drop8_yes t l si true x a v M W ht hl h HL.out
  rw [HD.out] at hdr
  unfold handV at hdr
  dsimp only at hdr
  have HDR := Lib.hid hdr
  clear hdr
  go_enter Try.func73, Try.ntmps73
  obtain ⟨⟨m0, m1, m2, m3, m4⟩, ⟨c0, c1, c2, c3, c4⟩, ⟨r0, r1, r2, r3, r4⟩, ⟨f0, f1, f2, f3, f4⟩, ⟨g0, g1, g2, g3, g4⟩, z1, z2⟩ := HBX.out.facts
  go_upto_region 3 with (go_at_call 79; refine (HIN.out _).mono ?_; rintro e w3 ⟨rfl, rfl⟩)
  rw [HB.out] at HBS
  (try rw [HB.out])
  have hb1 := HBS.out; have hm1 := HAS.out; have hk1 := HKS.out
  clear HBS HAS HKS m0 m1 m2 m3 m4 c0 c1 c2 c3 c4 r0 r1 r2 r3 r4 f0 f1 f2 f3 f4 g0 g1 g2 g3 g4 z1 z2 HA2 HK HBX
  generalize ((w.alloc (.cells #[.int .i64 2, .int .i64 2, .int .i64 4, .int .i64 0, .int .i64 2] 24)).alloc (.cells #[.int .i64 t, .int .i64 l, .int .i64 si, .bool true, .int .i64 x] 37)).alloc (.cells #[.int .i64 0, .int .i64 0, .int .i64 0, .bool false, .int .i64 0] 37) = W1 at *
  obtain ⟨⟨m0, m1, m2, m3, m4⟩, ⟨c0, c1, c2, c3, c4⟩, ⟨r0, r1, r2, r3, r4⟩, ⟨f0, f1, f2, f3, f4⟩, ⟨g0, g1, g2, g3, g4⟩, z1, z2⟩ := hb1.facts
  have HB1 := Lib.hid hb1; have HM1 := Lib.hid hm1; have HK1 := Lib.hid hk1
  clear hb1 hm1 hk1
  rw [show B + 1 + 1 = B + 2 from rfl]
  rcases hto with rfl | h3
  · have hso9 : so = 9 := by rw [← HSO.out]; rfl
    subst hso9
    go_upto_region 5 with (go_at_call 32; refine (HDR.out _ HM1.out).mono ?_; rintro e w4 ⟨rfl, hm, hk4⟩; have hb4 := HB1.out.own hk4 ha HV.out; clear m0 m1 m2 m3 m4 c0 c1 c2 c3 c4 r0 r1 r2 r3 r4 f0 f1 f2 f3 f4 g0 g1 g2 g3 g4 z1 z2; obtain ⟨⟨m0, m1, m2, m3, m4⟩, ⟨c0, c1, c2, c3, c4⟩, ⟨r0, r1, r2, r3, r4⟩, ⟨f0, f1, f2, f3, f4⟩, ⟨g0, g1, g2, g3, g4⟩, z1, z2⟩ := hb4.facts; have HB4 := Lib.hid hb4; have hkk : Keeps (own2m a v) w w4 := HK1.out.no.trans hk4; clear hb4)
    have hbN := HB4.out.h5 t l 0 true x4
    have hmN : MemAt (((((w4.setCell ⟨B + 1, 0, none⟩ (.int .i64 t)).setCell ⟨B + 1, 1, none⟩ (.int .i64 l)).setCell ⟨B + 1, 2, none⟩ (.int .i64 0)).setCell ⟨B + 1, 3, none⟩ (.bool true)).setCell ⟨B + 1, 4, none⟩ (.int .i64 x4)) a v M4 := by
      repeat (first | (with_reducible exact hm) | refine MemT.set (B := B) ?_ ha HV.out _ (by show B ≤ _; dsimp only; omega) _)
    have hkN : Keeps (own2m a v) w (((((w4.setCell ⟨B + 1, 0, none⟩ (.int .i64 t)).setCell ⟨B + 1, 1, none⟩ (.int .i64 l)).setCell ⟨B + 1, 2, none⟩ (.int .i64 0)).setCell ⟨B + 1, 3, none⟩ (.bool true)).setCell ⟨B + 1, 4, none⟩ (.int .i64 x4)) := by
      repeat (first | (with_reducible exact hkk) | refine kset HB.out ?_ _ (by show B ≤ _; dsimp only; omega) _)
    generalize (((((w4.setCell ⟨B + 1, 0, none⟩ (.int .i64 t)).setCell ⟨B + 1, 1, none⟩ (.int .i64 l)).setCell ⟨B + 1, 2, none⟩ (.int .i64 0)).setCell ⟨B + 1, 3, none⟩ (.bool true)).setCell ⟨B + 1, 4, none⟩ (.int .i64 x4)) = w5 at *
    clear hm hkk m0 m1 m2 m3 m4 c0 c1 c2 c3 c4 r0 r1 r2 r3 r4 f0 f1 f2 f3 f4 g0 g1 g2 g3 g4 z1 z2
    obtain ⟨⟨m0, m1, m2, m3, m4⟩, ⟨c0, c1, c2, c3, c4⟩, ⟨r0, r1, r2, r3, r4⟩, ⟨f0, f1, f2, f3, f4⟩, ⟨g0, g1, g2, g3, g4⟩, z1, z2⟩ := hbN.facts
    have HB5 := Lib.hid hbN; have HM5 := Lib.hid hmN; have HK5 := Lib.hid hkN
    have hm := hmN; have hkk := hkN
    clear hbN hmN hkN
    go_upto_region 6 with fail
    have hbN := HB5.out.st 9
    have hmN : MemAt (w5.setCell ⟨B + 1, 2, none⟩ (.int .i64 9)) a v M4 := by
      repeat (first | (with_reducible exact hm) | refine MemT.set (B := B) ?_ ha HV.out _ (by show B ≤ _; dsimp only; omega) _)
    have hkN : Keeps (own2m a v) w (w5.setCell ⟨B + 1, 2, none⟩ (.int .i64 9)) := by
      repeat (first | (with_reducible exact hkk) | refine kset HB.out ?_ _ (by show B ≤ _; dsimp only; omega) _)
    generalize (w5.setCell ⟨B + 1, 2, none⟩ (.int .i64 9)) = w6 at *
    clear hm hkk m0 m1 m2 m3 m4 c0 c1 c2 c3 c4 r0 r1 r2 r3 r4 f0 f1 f2 f3 f4 g0 g1 g2 g3 g4 z1 z2
    obtain ⟨⟨m0, m1, m2, m3, m4⟩, ⟨c0, c1, c2, c3, c4⟩, ⟨r0, r1, r2, r3, r4⟩, ⟨f0, f1, f2, f3, f4⟩, ⟨g0, g1, g2, g3, g4⟩, z1, z2⟩ := hbN.facts
    have HB6 := Lib.hid hbN; have HM6 := Lib.hid hmN; have HK6 := Lib.hid hkN
    have hm := hmN; have hkk := hkN
    clear hbN hmN hkN
    go_wp2_with fail
    refine bodyPost_ret (v := .agg #[.int .i64 t, .int .i64 l, .int .i64 9, .bool true, .int .i64 x4]) (by simp [results, Try.results73, go_sem, *]) rfl ⟨rfl, ?_, ?_⟩
    · repeat (first | (with_reducible exact hm) | refine MemT.set (B := B) ?_ ha HV.out _ (by show B ≤ _; dsimp only; omega) _)
    · repeat (first | (with_reducible exact hkk) | refine kset HB.out ?_ _ (by show B ≤ _; dsimp only; omega) _)
  · have hne : (s4 == 0) = false := by simp; omega
    obtain ⟨T, hT, hT11, hT14, hno, hyes⟩ : ∃ T : Nat, outI s4 = (T : Int) ∧ 11 ≤ T ∧ T ≤ 14 ∧ (∀ k : Nat, 11 ≤ k → k < T → (inI k == s4) = false) ∧ (inI T == s4) = true := by
      rcases h3 with rfl | rfl | rfl
      · exact ⟨12, rfl, by omega, by omega, fun k h1 h2 => by (have : k = 11 := by omega); subst this; rfl, rfl⟩
      · exact ⟨13, rfl, by omega, by omega, fun k h1 h2 => by
          rcases (show k = 11 ∨ k = 12 by omega) with rfl | rfl <;> rfl, rfl⟩
      · exact ⟨14, rfl, by omega, by omega, fun k h1 h2 => by
          rcases (show k = 11 ∨ k = 12 ∨ k = 13 by omega) with rfl | rfl | rfl <;> rfl, rfl⟩
    have hsoT : so = (T : Int) := HSO.out.symm.trans hT
    subst hsoT
    have HNO := Lib.hid hno; have HYES := Lib.hid hyes
    clear hno hyes hT h3
    go_upto_region 7 with (go_at_call 32; refine (HDR.out _ HM1.out).mono ?_; rintro e w4 ⟨rfl, hm, hk4⟩; have hb4 := HB1.out.own hk4 ha HV.out; clear m0 m1 m2 m3 m4 c0 c1 c2 c3 c4 r0 r1 r2 r3 r4 f0 f1 f2 f3 f4 g0 g1 g2 g3 g4 z1 z2; obtain ⟨⟨m0, m1, m2, m3, m4⟩, ⟨c0, c1, c2, c3, c4⟩, ⟨r0, r1, r2, r3, r4⟩, ⟨f0, f1, f2, f3, f4⟩, ⟨g0, g1, g2, g3, g4⟩, z1, z2⟩ := hb4.facts; have HB4 := Lib.hid hb4; have hkk : Keeps (own2m a v) w w4 := HK1.out.no.trans hk4; clear hb4)
    have hbN := HB4.out.h5 t l s4 true x4
    have hmN : MemAt (((((w4.setCell ⟨B + 1, 0, none⟩ (.int .i64 t)).setCell ⟨B + 1, 1, none⟩ (.int .i64 l)).setCell ⟨B + 1, 2, none⟩ (.int .i64 s4)).setCell ⟨B + 1, 3, none⟩ (.bool true)).setCell ⟨B + 1, 4, none⟩ (.int .i64 x4)) a v M4 := by
      repeat (first | (with_reducible exact hm) | refine MemT.set (B := B) ?_ ha HV.out _ (by show B ≤ _; dsimp only; omega) _)
    have hkN : Keeps (own2m a v) w (((((w4.setCell ⟨B + 1, 0, none⟩ (.int .i64 t)).setCell ⟨B + 1, 1, none⟩ (.int .i64 l)).setCell ⟨B + 1, 2, none⟩ (.int .i64 s4)).setCell ⟨B + 1, 3, none⟩ (.bool true)).setCell ⟨B + 1, 4, none⟩ (.int .i64 x4)) := by
      repeat (first | (with_reducible exact hkk) | refine kset HB.out ?_ _ (by show B ≤ _; dsimp only; omega) _)
    generalize (((((w4.setCell ⟨B + 1, 0, none⟩ (.int .i64 t)).setCell ⟨B + 1, 1, none⟩ (.int .i64 l)).setCell ⟨B + 1, 2, none⟩ (.int .i64 s4)).setCell ⟨B + 1, 3, none⟩ (.bool true)).setCell ⟨B + 1, 4, none⟩ (.int .i64 x4)) = w5 at *
    clear hm hkk m0 m1 m2 m3 m4 c0 c1 c2 c3 c4 r0 r1 r2 r3 r4 f0 f1 f2 f3 f4 g0 g1 g2 g3 g4 z1 z2
    obtain ⟨⟨m0, m1, m2, m3, m4⟩, ⟨c0, c1, c2, c3, c4⟩, ⟨r0, r1, r2, r3, r4⟩, ⟨f0, f1, f2, f3, f4⟩, ⟨g0, g1, g2, g3, g4⟩, z1, z2⟩ := hbN.facts
    have HB5 := Lib.hid hbN; have HM5 := Lib.hid hmN; have HK5 := Lib.hid hkN
    have hm := hmN; have hkk := hkN
    clear hbN hmN hkN
    go_wp2_with fail
    clear hm hkk
    go_loopw [8] (fun kv wq => ∃ k : Nat, 11 ≤ k ∧ k ≤ T ∧ kv = .int .i64 k ∧ Keeps NoS w5 wq) (fun kv _ => 14 - (intOf kv).toNat)
    case atStart => exact ⟨11, by omega, hT11, rfl, Keeps.refl _ _⟩
    case round =>
      obtain ⟨k, hk11, hkT, rfl, hkq⟩ := hrel
      have HKQ := Lib.hid hkq
      have k0 : (11 : Int) ≤ (k : Int) := by omega
      have k1 : (k : Int) ≤ 14 := by omega
      obtain ⟨⟨m0, m1, m2, m3, m4⟩, ⟨c0, c1, c2, c3, c4⟩, ⟨r0, r1, r2, r3, r4⟩, ⟨f0, f1, f2, f3, f4⟩, ⟨g0, g1, g2, g3, g4⟩, z1, z2⟩ := (HB5.out.no hkq).facts
      clear hkq
      obtain ⟨ik, hik⟩ : ∃ z, inI k = z := ⟨_, rfl⟩
      have hin := fun W => inner_any k ⟨k0, k1⟩ W
      rw [hik] at hin
      have HIN2 := Lib.hid hin
      clear hin
      by_cases hlt : k < T
      · have hq := HNO.out k hk11 hlt
        rw [hik] at hq
        clear hik
        go_wp2_with fail
        go_quiet ((go_at_call 79; exact Calls.quiet_of_same ((HIN2.out _).mono (fun _ _ h => ⟨h.1, h.2.symm⟩))))
        go_wp2_with fail
        go_roundw
        case rel => exact ⟨k + 1, by omega, by omega, by go_num, HKQ.out.trans ((Keeps.refl NoS _).drewN _)⟩
        case measure => simp [intOf]; omega
      · obtain rfl : k = T := by omega
        have hq := HYES.out
        rw [hik] at hq
        clear hik
        have hm := HM5.out.keep HKQ.out (fun f => f) (fun _ _ f => f)
        have hkk : Keeps (own2m a v) w wr := HK5.out.trans HKQ.out.no
        have HBR := Lib.hid (HB5.out.no HKQ.out)
        go_wp2_with fail
        go_quiet ((go_at_call 79; exact Calls.quiet_of_same ((HIN2.out _).mono (fun _ _ h => ⟨h.1, h.2.symm⟩))))
        go_upto_region 12 with fail
        have hbN := (HBR.out.no ((Keeps.refl NoS wr).drewN nq)).st k
        have hmN : MemAt ((wr.drewN nq).setCell ⟨B + 1, 2, none⟩ (.int .i64 k)) a v M4 := by
          repeat (first | (with_reducible exact (hm.keep ((Keeps.refl NoS wr).drewN nq) (fun f => f) (fun _ _ f => f))) | refine MemT.set (B := B) ?_ ha HV.out _ (by show B ≤ _; dsimp only; omega) _)
        have hkN : Keeps (own2m a v) w ((wr.drewN nq).setCell ⟨B + 1, 2, none⟩ (.int .i64 k)) := by
          repeat (first | (with_reducible exact (hkk.trans ((Keeps.refl NoS wr).drewN nq).no)) | refine kset HB.out ?_ _ (by show B ≤ _; dsimp only; omega) _)
        generalize ((wr.drewN nq).setCell ⟨B + 1, 2, none⟩ (.int .i64 k)) = w6 at *
        clear hm hkk m0 m1 m2 m3 m4 c0 c1 c2 c3 c4 r0 r1 r2 r3 r4 f0 f1 f2 f3 f4 g0 g1 g2 g3 g4 z1 z2
        obtain ⟨⟨m0, m1, m2, m3, m4⟩, ⟨c0, c1, c2, c3, c4⟩, ⟨r0, r1, r2, r3, r4⟩, ⟨f0, f1, f2, f3, f4⟩, ⟨g0, g1, g2, g3, g4⟩, z1, z2⟩ := hbN.facts
        have HB6 := Lib.hid hbN; have HM6 := Lib.hid hmN; have HK6 := Lib.hid hkN
        have hm := hmN; have hkk := hkN
        clear hbN hmN hkN
        go_wp2_with fail
        refine bodyPost_ret (v := .agg #[.int .i64 t, .int .i64 l, .int .i64 k, .bool true, .int .i64 x4]) (by simp [results, Try.results73, go_sem, *]) rfl ⟨rfl, ?_, ?_⟩
        · repeat (first | (with_reducible exact hm) | refine MemT.set (B := B) ?_ ha HV.out _ (by show B ≤ _; dsimp only; omega) _)
        · repeat (first | (with_reducible exact hkk) | refine kset HB.out ?_ _ (by show B ≤ _; dsimp only; omega) _)
end Go.Proofs.Ytjchcmomppfilaa
