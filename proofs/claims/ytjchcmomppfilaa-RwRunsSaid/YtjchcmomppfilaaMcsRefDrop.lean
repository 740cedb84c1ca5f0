/- The document's McsDrop at layer 8's map. -/
import Derived.Test.YtjchcmomppfilaaMcsRef
namespace Go.Proofs.Ytjchcmomppfilaa
open Go.RowKit
set_option maxHeartbeats 4000000 in
set_option maxRecDepth 100000 in
theorem rdrop8_no (t l s : Int) (r : Bool) (x : Int) (a : Nat) (v : Value) (M : MemS) (w : World) (hok : okH t l = false) (hA : RefAt w a v M) (hl48 : M.L.length = 48) : Calls Try.prog 33 #[.agg #[.int .i64 2, .int .i64 2, .int .i64 4, .int .i64 0, .int .i64 2], .pointer (some ⟨a, 0, none⟩), .agg #[.int .i64 t, .int .i64 l, .int .i64 s, .bool r, .int .i64 x]] w fun e w' => e = .returned (.agg #[.int .i64 t, .int .i64 l, .int .i64 s, .bool r, .int .i64 x]) ∧ RefAt w' a v M ∧ Keeps (own2m a v) w w' := by
  have hbx := bx_new w 2 2 4 0 2 t l s r x 54
  have hk : Keeps NoS w (((w.alloc (.cells #[.int .i64 2, .int .i64 2, .int .i64 4, .int .i64 0, .int .i64 2] 54)).alloc (.cells #[.int .i64 t, .int .i64 l, .int .i64 s, .bool r, .int .i64 x] 37)).alloc (.cells #[.int .i64 0, .int .i64 0, .int .i64 0, .bool false, .int .i64 0] 37)) := (((Keeps.refl NoS w).alloc _).alloc _).alloc _
  have ha := blk_lt hA.hd
  have hv : ∀ g, v.ownBlock = some g → g < w.heap.size := fun g hg => hA.own_lt hg
  have hA2 := hA.keep hk (fun f => f) (fun _ _ f => f)
  obtain ⟨B, hB⟩ : ∃ B, w.heap.size = B := ⟨_, rfl⟩
  rw [hB] at hbx hv ha
  have HB := Lib.hid hB; have HA2 := Lib.hid hA2; have HK := Lib.hid hk; have HV := Lib.hid hv; have HBX := Lib.hid hbx; have HL := Lib.hid hl48
  clear hB hA2 hk hv hbx hl48 hA
  have HOK := Lib.hid hok
  clear hok
  go_enter Try.func33, Try.ntmps33
  go_wp2_with fail
  rw [HB.out]
  refine (rmay8_any t l s r x _).mono ?_
  rw [HOK.out]
  rintro e w1 ⟨rfl, hk1⟩
  have hb1 := HBX.out.no hk1
  obtain ⟨⟨m0, m1, m2, m3, m4⟩, ⟨c0, c1, c2, c3, c4⟩, ⟨r0, r1, r2, r3, r4⟩, ⟨f0, f1, f2, f3, f4⟩, ⟨g0, g1, g2, g3, g4⟩, z1, z2⟩ := hb1.facts
  have hm := HA2.out.keep hk1 (fun f => f) (fun _ _ f => f)
  have hkk : Keeps (own2m a v) w w1 := (HK.out.trans hk1).no
  clear hb1
  go_wp2_with fail
  refine bodyPost_ret (v := .agg #[.int .i64 t, .int .i64 l, .int .i64 s, .bool r, .int .i64 x]) (by simp [results, Try.results33, go_sem, *]) rfl ⟨rfl, ?_, ?_⟩
  · repeat (first | (with_reducible exact hm) | refine MemT.set (B := B) ?_ ha HV.out _ (by show B ≤ _; dsimp only; omega) _)
  · repeat (first | (with_reducible exact hkk) | refine kset HB.out ?_ _ (by show B ≤ _; dsimp only; omega) _)
set_option maxHeartbeats 20000000 in
set_option maxRecDepth 100000 in
theorem rdrop8_yes (t l : Nat) (s : Int) (r : Bool) (x : Int) (a : Nat) (v : Value) (M : MemS) (w : World) (ht : t < 4) (hl : l < 2) (hA : RefAt w a v M) (hl48 : M.L.length = 48) : Calls Try.prog 33 #[.agg #[.int .i64 2, .int .i64 2, .int .i64 4, .int .i64 0, .int .i64 2], .pointer (some ⟨a, 0, none⟩), .agg #[.int .i64 t, .int .i64 l, .int .i64 s, .bool r, .int .i64 x]] w fun e w' => e = .returned (handV (mDrop M t l s r x).2) ∧ RefAt w' a v (mDrop M t l s r x).1 ∧ Keeps (own2m a v) w w' := by
  have HOK := Lib.hid (okH_nat ht hl)
  have hg1 : nodeP ⟨2, 2, 4, 0, 2⟩ t l 1 = (ndA t l 1 : Nat) := ndA_eq ht hl (p := 1) (by decide)
  have HG1 := Lib.hid hg1
  have HN1 := Lib.hid (show ndA t l 1 < M.L.length by rw [hl48]; exact ndA_lt ht hl (by decide))
  have HNT := Lib.hid (show tlA l < M.L.length by rw [hl48]; exact tlA_lt hl)
  obtain ⟨A, hAA⟩ : ∃ A : Int, ((tlA l : Nat) : Int) = A := ⟨_, rfl⟩
  have hlk := tlA_eq hl
  rw [hAA] at hlk
  have HLK := Lib.hid hlk; have HAA := Lib.hid hAA
  clear hg1 hlk hAA
  have hbx := bx_new w 2 2 4 0 2 t l s r x 54
  have hk : Keeps NoS w (((w.alloc (.cells #[.int .i64 2, .int .i64 2, .int .i64 4, .int .i64 0, .int .i64 2] 54)).alloc (.cells #[.int .i64 t, .int .i64 l, .int .i64 s, .bool r, .int .i64 x] 37)).alloc (.cells #[.int .i64 0, .int .i64 0, .int .i64 0, .bool false, .int .i64 0] 37)) := (((Keeps.refl NoS w).alloc _).alloc _).alloc _
  have ha := blk_lt hA.hd
  have hv : ∀ g, v.ownBlock = some g → g < w.heap.size := fun g hg => hA.own_lt hg
  have hA2 := hA.keep hk (fun f => f) (fun _ _ f => f)
  obtain ⟨B, hB⟩ : ∃ B, w.heap.size = B := ⟨_, rfl⟩
  rw [hB] at hbx hv ha
  have HB := Lib.hid hB; have HA2 := Lib.hid hA2; have HK := Lib.hid hk; have HV := Lib.hid hv; have HBX := Lib.hid hbx; have HL := Lib.hid hl48
  clear hB hA2 hk hv hbx hl48 hA
  by_cases s9 : s = 9
  · subst s9
    obtain ⟨c, hc⟩ : ∃ c, M.word (ndA t l 1) = c := ⟨_, rfl⟩
    have HC := Lib.hid hc
    by_cases hc0 : c = 0
    · rw [show mDrop M t l 9 r x = (M.load (ndA t l 1), ⟨t, l, 7, r, x⟩) by (unfold mDrop; rw [if_pos (by simp), hc, if_pos hc0]; rfl)]
      have hc1 : (c != 0) = false := by simpa using hc0
      clear hc hc0
      unfold handV
      dsimp only
      go_enter Try.func33, Try.ntmps33
      go_wp2_with fail
      rw [HB.out]
      refine (rmay8_any t l 9 r x _).mono ?_
      rw [HOK.out]
      rintro e w1 ⟨rfl, hk1⟩
      have hb1 := HBX.out.no hk1
      have hm1 := HA2.out.keep hk1 (fun f => f) (fun _ _ f => f)
      obtain ⟨⟨m0, m1, m2, m3, m4⟩, ⟨c0, c1, c2, c3, c4⟩, ⟨r0, r1, r2, r3, r4⟩, ⟨f0, f1, f2, f3, f4⟩, ⟨g0, g1, g2, g3, g4⟩, z1, z2⟩ := hb1.facts
      have HB1 := Lib.hid hb1; have HM1 := Lib.hid hm1; have HK1 := Lib.hid (HK.out.trans hk1)
      clear hb1 hm1
      go_wp2_with (first
        | (go_at_call 29; refine (rnode_lit 2 2 4 0 2 t l 1 _ HG1.out _).mono ?_; rintro e w5 ⟨rfl, hk5⟩; have hb5 := HB1.out.no hk5; have hm5 := HM1.out.keep hk5 (fun f => f) (fun _ _ f => f); obtain ⟨⟨m0, m1, m2, m3, m4⟩, ⟨c0, c1, c2, c3, c4⟩, ⟨r0, r1, r2, r3, r4⟩, ⟨f0, f1, f2, f3, f4⟩, ⟨g0, g1, g2, g3, g4⟩, z1, z2⟩ := hb5.facts; have HB5 := Lib.hid hb5; have HM5 := Lib.hid hm5; have HK5 := Lib.hid (HK1.out.trans hk5); clear hb5 hm5)
        | (go_at_call 65; refine (rload_ok a v M (ndA t l 1) _ HM5.out HN1.out).mono ?_; rw [HC.out]; rintro e w4 ⟨rfl, hm, hk4'⟩; have hk4 : Keeps (own2m a v) w5 w4 := hk4'.mono (fun _ e => .inl e); have hb4 := HB5.out.own hk4 ha HV.out; obtain ⟨⟨m0, m1, m2, m3, m4⟩, ⟨c0, c1, c2, c3, c4⟩, ⟨r0, r1, r2, r3, r4⟩, ⟨f0, f1, f2, f3, f4⟩, ⟨g0, g1, g2, g3, g4⟩, z1, z2⟩ := hb4.facts; have hkk : Keeps (own2m a v) w w4 := HK5.out.no.trans hk4; clear hb4))
      refine bodyPost_ret (v := .agg #[.int .i64 t, .int .i64 l, .int .i64 7, .bool r, .int .i64 x]) (by simp [results, Try.results33, go_sem, *]) rfl ⟨rfl, ?_, ?_⟩
      · repeat (first | (with_reducible exact hm) | refine MemT.set (B := B) ?_ ha HV.out _ (by show B ≤ _; dsimp only; omega) _)
      · repeat (first | (with_reducible exact hkk) | refine kset HB.out ?_ _ (by show B ≤ _; dsimp only; omega) _)
    · rw [show mDrop M t l 9 r x = (M.load (ndA t l 1), ⟨t, l, 8, r, c⟩) by (unfold mDrop; rw [if_pos (by simp), hc, if_neg hc0])]
      have hc1 : (c != 0) = true := by simpa using hc0
      clear hc hc0
      unfold handV
      dsimp only
      go_enter Try.func33, Try.ntmps33
      go_wp2_with fail
      rw [HB.out]
      refine (rmay8_any t l 9 r x _).mono ?_
      rw [HOK.out]
      rintro e w1 ⟨rfl, hk1⟩
      have hb1 := HBX.out.no hk1
      have hm1 := HA2.out.keep hk1 (fun f => f) (fun _ _ f => f)
      obtain ⟨⟨m0, m1, m2, m3, m4⟩, ⟨c0, c1, c2, c3, c4⟩, ⟨r0, r1, r2, r3, r4⟩, ⟨f0, f1, f2, f3, f4⟩, ⟨g0, g1, g2, g3, g4⟩, z1, z2⟩ := hb1.facts
      have HB1 := Lib.hid hb1; have HM1 := Lib.hid hm1; have HK1 := Lib.hid (HK.out.trans hk1)
      clear hb1 hm1
      go_wp2_with (first
        | (go_at_call 29; refine (rnode_lit 2 2 4 0 2 t l 1 _ HG1.out _).mono ?_; rintro e w5 ⟨rfl, hk5⟩; have hb5 := HB1.out.no hk5; have hm5 := HM1.out.keep hk5 (fun f => f) (fun _ _ f => f); obtain ⟨⟨m0, m1, m2, m3, m4⟩, ⟨c0, c1, c2, c3, c4⟩, ⟨r0, r1, r2, r3, r4⟩, ⟨f0, f1, f2, f3, f4⟩, ⟨g0, g1, g2, g3, g4⟩, z1, z2⟩ := hb5.facts; have HB5 := Lib.hid hb5; have HM5 := Lib.hid hm5; have HK5 := Lib.hid (HK1.out.trans hk5); clear hb5 hm5)
        | (go_at_call 65; refine (rload_ok a v M (ndA t l 1) _ HM5.out HN1.out).mono ?_; rw [HC.out]; rintro e w4 ⟨rfl, hm, hk4'⟩; have hk4 : Keeps (own2m a v) w5 w4 := hk4'.mono (fun _ e => .inl e); have hb4 := HB5.out.own hk4 ha HV.out; obtain ⟨⟨m0, m1, m2, m3, m4⟩, ⟨c0, c1, c2, c3, c4⟩, ⟨r0, r1, r2, r3, r4⟩, ⟨f0, f1, f2, f3, f4⟩, ⟨g0, g1, g2, g3, g4⟩, z1, z2⟩ := hb4.facts; have hkk : Keeps (own2m a v) w w4 := HK5.out.no.trans hk4; clear hb4))
      refine bodyPost_ret (v := .agg #[.int .i64 t, .int .i64 l, .int .i64 8, .bool r, .int .i64 c]) (by simp [results, Try.results33, go_sem, *]) rfl ⟨rfl, ?_, ?_⟩
      · repeat (first | (with_reducible exact hm) | refine MemT.set (B := B) ?_ ha HV.out _ (by show B ≤ _; dsimp only; omega) _)
      · repeat (first | (with_reducible exact hkk) | refine kset HB.out ?_ _ (by show B ≤ _; dsimp only; omega) _)
  by_cases s6 : s = 6
  · subst s6
    obtain ⟨c, hc⟩ : ∃ c, M.word (ndA t l 1) = c := ⟨_, rfl⟩
    have HC := Lib.hid hc
    by_cases hc0 : c = 0
    · rw [show mDrop M t l 6 r x = (M.load (ndA t l 1), ⟨t, l, 6, r, x⟩) by (unfold mDrop; rw [if_pos (by simp), hc, if_pos hc0]; rfl)]
      have hc1 : (c != 0) = false := by simpa using hc0
      clear hc hc0
      unfold handV
      dsimp only
      go_enter Try.func33, Try.ntmps33
      go_wp2_with fail
      rw [HB.out]
      refine (rmay8_any t l 6 r x _).mono ?_
      rw [HOK.out]
      rintro e w1 ⟨rfl, hk1⟩
      have hb1 := HBX.out.no hk1
      have hm1 := HA2.out.keep hk1 (fun f => f) (fun _ _ f => f)
      obtain ⟨⟨m0, m1, m2, m3, m4⟩, ⟨c0, c1, c2, c3, c4⟩, ⟨r0, r1, r2, r3, r4⟩, ⟨f0, f1, f2, f3, f4⟩, ⟨g0, g1, g2, g3, g4⟩, z1, z2⟩ := hb1.facts
      have HB1 := Lib.hid hb1; have HM1 := Lib.hid hm1; have HK1 := Lib.hid (HK.out.trans hk1)
      clear hb1 hm1
      go_wp2_with (first
        | (go_at_call 29; refine (rnode_lit 2 2 4 0 2 t l 1 _ HG1.out _).mono ?_; rintro e w5 ⟨rfl, hk5⟩; have hb5 := HB1.out.no hk5; have hm5 := HM1.out.keep hk5 (fun f => f) (fun _ _ f => f); obtain ⟨⟨m0, m1, m2, m3, m4⟩, ⟨c0, c1, c2, c3, c4⟩, ⟨r0, r1, r2, r3, r4⟩, ⟨f0, f1, f2, f3, f4⟩, ⟨g0, g1, g2, g3, g4⟩, z1, z2⟩ := hb5.facts; have HB5 := Lib.hid hb5; have HM5 := Lib.hid hm5; have HK5 := Lib.hid (HK1.out.trans hk5); clear hb5 hm5)
        | (go_at_call 65; refine (rload_ok a v M (ndA t l 1) _ HM5.out HN1.out).mono ?_; rw [HC.out]; rintro e w4 ⟨rfl, hm, hk4'⟩; have hk4 : Keeps (own2m a v) w5 w4 := hk4'.mono (fun _ e => .inl e); have hb4 := HB5.out.own hk4 ha HV.out; obtain ⟨⟨m0, m1, m2, m3, m4⟩, ⟨c0, c1, c2, c3, c4⟩, ⟨r0, r1, r2, r3, r4⟩, ⟨f0, f1, f2, f3, f4⟩, ⟨g0, g1, g2, g3, g4⟩, z1, z2⟩ := hb4.facts; have hkk : Keeps (own2m a v) w w4 := HK5.out.no.trans hk4; clear hb4))
      refine bodyPost_ret (v := .agg #[.int .i64 t, .int .i64 l, .int .i64 6, .bool r, .int .i64 x]) (by simp [results, Try.results33, go_sem, *]) rfl ⟨rfl, ?_, ?_⟩
      · repeat (first | (with_reducible exact hm) | refine MemT.set (B := B) ?_ ha HV.out _ (by show B ≤ _; dsimp only; omega) _)
      · repeat (first | (with_reducible exact hkk) | refine kset HB.out ?_ _ (by show B ≤ _; dsimp only; omega) _)
    · rw [show mDrop M t l 6 r x = (M.load (ndA t l 1), ⟨t, l, 8, r, c⟩) by (unfold mDrop; rw [if_pos (by simp), hc, if_neg hc0])]
      have hc1 : (c != 0) = true := by simpa using hc0
      clear hc hc0
      unfold handV
      dsimp only
      go_enter Try.func33, Try.ntmps33
      go_wp2_with fail
      rw [HB.out]
      refine (rmay8_any t l 6 r x _).mono ?_
      rw [HOK.out]
      rintro e w1 ⟨rfl, hk1⟩
      have hb1 := HBX.out.no hk1
      have hm1 := HA2.out.keep hk1 (fun f => f) (fun _ _ f => f)
      obtain ⟨⟨m0, m1, m2, m3, m4⟩, ⟨c0, c1, c2, c3, c4⟩, ⟨r0, r1, r2, r3, r4⟩, ⟨f0, f1, f2, f3, f4⟩, ⟨g0, g1, g2, g3, g4⟩, z1, z2⟩ := hb1.facts
      have HB1 := Lib.hid hb1; have HM1 := Lib.hid hm1; have HK1 := Lib.hid (HK.out.trans hk1)
      clear hb1 hm1
      go_wp2_with (first
        | (go_at_call 29; refine (rnode_lit 2 2 4 0 2 t l 1 _ HG1.out _).mono ?_; rintro e w5 ⟨rfl, hk5⟩; have hb5 := HB1.out.no hk5; have hm5 := HM1.out.keep hk5 (fun f => f) (fun _ _ f => f); obtain ⟨⟨m0, m1, m2, m3, m4⟩, ⟨c0, c1, c2, c3, c4⟩, ⟨r0, r1, r2, r3, r4⟩, ⟨f0, f1, f2, f3, f4⟩, ⟨g0, g1, g2, g3, g4⟩, z1, z2⟩ := hb5.facts; have HB5 := Lib.hid hb5; have HM5 := Lib.hid hm5; have HK5 := Lib.hid (HK1.out.trans hk5); clear hb5 hm5)
        | (go_at_call 65; refine (rload_ok a v M (ndA t l 1) _ HM5.out HN1.out).mono ?_; rw [HC.out]; rintro e w4 ⟨rfl, hm, hk4'⟩; have hk4 : Keeps (own2m a v) w5 w4 := hk4'.mono (fun _ e => .inl e); have hb4 := HB5.out.own hk4 ha HV.out; obtain ⟨⟨m0, m1, m2, m3, m4⟩, ⟨c0, c1, c2, c3, c4⟩, ⟨r0, r1, r2, r3, r4⟩, ⟨f0, f1, f2, f3, f4⟩, ⟨g0, g1, g2, g3, g4⟩, z1, z2⟩ := hb4.facts; have hkk : Keeps (own2m a v) w w4 := HK5.out.no.trans hk4; clear hb4))
      refine bodyPost_ret (v := .agg #[.int .i64 t, .int .i64 l, .int .i64 8, .bool r, .int .i64 c]) (by simp [results, Try.results33, go_sem, *]) rfl ⟨rfl, ?_, ?_⟩
      · repeat (first | (with_reducible exact hm) | refine MemT.set (B := B) ?_ ha HV.out _ (by show B ≤ _; dsimp only; omega) _)
      · repeat (first | (with_reducible exact hkk) | refine kset HB.out ?_ _ (by show B ≤ _; dsimp only; omega) _)
  by_cases s7 : s = 7
  · subst s7
    obtain ⟨c, hc⟩ : ∃ c, M.word (tlA l) = c := ⟨_, rfl⟩
    have HC := Lib.hid hc
    have HID := Lib.hid (fun W => rid8_any t l ht hl W)
    have hmd7 : mDrop M t l 7 r x = (M.swap (tlA l) (idA t l) 0, ⟨t, l, if M.word (tlA l) = idA t l then 0 else 6, r, x⟩) := by unfold mDrop; rw [if_neg (by simp), if_pos rfl]
    rw [hmd7]
    clear hmd7
    generalize idA t l = y at *
    by_cases hcy : c = y
    · have hq : (M.word (tlA l) == y) = true := by rw [hc]; simpa using hcy
      rw [hc, if_pos hcy]
      have HQ := Lib.hid hq
      clear hq hc hcy
      unfold handV
      dsimp only
      go_enter Try.func33, Try.ntmps33
      go_wp2_with fail
      rw [HB.out]
      refine (rmay8_any t l 7 r x _).mono ?_
      rw [HOK.out]
      rintro e w1 ⟨rfl, hk1⟩
      have hb1 := HBX.out.no hk1
      have hm1 := HA2.out.keep hk1 (fun f => f) (fun _ _ f => f)
      obtain ⟨⟨m0, m1, m2, m3, m4⟩, ⟨c0, c1, c2, c3, c4⟩, ⟨r0, r1, r2, r3, r4⟩, ⟨f0, f1, f2, f3, f4⟩, ⟨g0, g1, g2, g3, g4⟩, z1, z2⟩ := hb1.facts
      have HB1 := Lib.hid hb1; have HM1 := Lib.hid hm1; have HK1 := Lib.hid (HK.out.trans hk1)
      clear hb1 hm1
      go_wp2_with (go_at_call 29; refine (rnode_lit 2 2 4 0 2 t l 1 _ HG1.out _).mono ?_; rintro e w5 ⟨rfl, hk5⟩; have hb5 := HB1.out.no hk5; have hm5 := HM1.out.keep hk5 (fun f => f) (fun _ _ f => f); obtain ⟨⟨m0, m1, m2, m3, m4⟩, ⟨c0, c1, c2, c3, c4⟩, ⟨r0, r1, r2, r3, r4⟩, ⟨f0, f1, f2, f3, f4⟩, ⟨g0, g1, g2, g3, g4⟩, z1, z2⟩ := hb5.facts; have HB5 := Lib.hid hb5; have HM5 := Lib.hid hm5; have HK5 := Lib.hid (HK1.out.trans hk5); clear hb5 hm5)
      have hbd := HB5.out.no ((Keeps.refl NoS w5).drew)
      have hmd := HM5.out.keep ((Keeps.refl NoS w5).drew) (fun f => f) (fun _ _ f => f)
      refine wp_region_held_drew (S := (fun w' => (w'.cell? ⟨B, 0, none⟩ = some (.int .i64 2) ∧ w'.cell? ⟨B, 1, none⟩ = some (.int .i64 2) ∧ w'.cell? ⟨B, 2, none⟩ = some (.int .i64 4) ∧ w'.cell? ⟨B, 3, none⟩ = some (.int .i64 0) ∧ w'.cell? ⟨B, 4, none⟩ = some (.int .i64 2)) ∧ (w'.cell? ⟨(B + 1), 0, none⟩ = some (.int .i64 t) ∧ w'.cell? ⟨(B + 1), 1, none⟩ = some (.int .i64 l) ∧ w'.cell? ⟨(B + 1), 2, none⟩ = some (.int .i64 7) ∧ w'.cell? ⟨(B + 1), 3, none⟩ = some (.bool r) ∧ w'.cell? ⟨(B + 1), 4, none⟩ = some (.int .i64 x)))) (by kernel_rfl) (hbd.two) (fun hHeld => ?_)
      refine wpAnyH_take (i := 0) (v := ?_) (by simp only [List.getElem?_toArray, List.getElem?_cons_succ, List.getElem?_cons_zero]; rfl) (by kernel_rfl) (by kernel_rfl) (by kernel_rfl) (by exact fun _ _ _ h => h) (Or.inl ⟨by rfl, ?_⟩) hHeld ?_
      rotate_left
      · intro w hSw; (try dsimp only at hSw); go_simp; (try with_reducible rfl)
      try simp only [Act.put, List.setIfInBounds_toArray, List.set_cons_zero, List.set_cons_succ]
      refine wpAnyH_take (i := 1) (v := ?_) (by simp only [List.getElem?_toArray, List.getElem?_cons_succ, List.getElem?_cons_zero]; rfl) (by kernel_rfl) (by kernel_rfl) (by kernel_rfl) (by exact fun _ _ _ h => h) (Or.inl ⟨by rfl, ?_⟩) hHeld ?_
      rotate_left
      · intro w hSw; (try dsimp only at hSw); go_simp; (try with_reducible rfl)
      try simp only [Act.put, List.setIfInBounds_toArray, List.set_cons_zero, List.set_cons_succ]
      refine wpAnyH_take (i := 2) (v := ?_) (by simp only [List.getElem?_toArray, List.getElem?_cons_succ, List.getElem?_cons_zero]; rfl) (by kernel_rfl) (by kernel_rfl) (by kernel_rfl) (by exact fun _ _ _ h => h) (Or.inl ⟨by rfl, ?_⟩) hHeld ?_
      rotate_left
      · intro w hSw; (try dsimp only at hSw); go_simp; (try with_reducible rfl)
      try simp only [Act.put, List.setIfInBounds_toArray, List.set_cons_zero, List.set_cons_succ]
      refine wpAnyH_take (i := 3) (v := ?_) (by simp only [List.getElem?_toArray, List.getElem?_cons_succ, List.getElem?_cons_zero]; rfl) (by kernel_rfl) (by kernel_rfl) (by kernel_rfl) (by exact fun _ _ _ h => h) (Or.inl ⟨by rfl, ?_⟩) hHeld ?_
      rotate_left
      · intro w hSw; (try dsimp only at hSw); go_simp; (try with_reducible rfl)
      try simp only [Act.put, List.setIfInBounds_toArray, List.set_cons_zero, List.set_cons_succ]
      refine wpAnyH_take (i := 5) (v := ?_) (by simp only [List.getElem?_toArray, List.getElem?_cons_succ, List.getElem?_cons_zero]; rfl) (by kernel_rfl) (by kernel_rfl) (by kernel_rfl) (by exact fun _ _ _ h => h) (Or.inl ⟨by rfl, ?_⟩) hHeld ?_
      rotate_left
      · intro w hSw; (try dsimp only at hSw); go_simp; (try with_reducible rfl)
      try simp only [Act.put, List.setIfInBounds_toArray, List.set_cons_zero, List.set_cons_succ]
      refine wpAnyH_take (i := 6) (v := ?_) (by simp only [List.getElem?_toArray, List.getElem?_cons_succ, List.getElem?_cons_zero]; rfl) (by kernel_rfl) (by kernel_rfl) (by kernel_rfl) (by exact fun _ _ _ h => h) (Or.inl ⟨by rfl, ?_⟩) hHeld ?_
      rotate_left
      · intro w hSw; (try dsimp only at hSw); go_simp; (try with_reducible rfl)
      try simp only [Act.put, List.setIfInBounds_toArray, List.set_cons_zero, List.set_cons_succ]
      refine wpAnyH_take (i := 7) (v := ?_) (by simp only [List.getElem?_toArray, List.getElem?_cons_succ, List.getElem?_cons_zero]; rfl) (by kernel_rfl) (by kernel_rfl) (by kernel_rfl) (by exact fun _ _ _ h => h) (Or.inl ⟨by rfl, ?_⟩) hHeld ?_
      rotate_left
      · intro w hSw; (try dsimp only at hSw); go_simp; (try with_reducible rfl)
      try simp only [Act.put, List.setIfInBounds_toArray, List.set_cons_zero, List.set_cons_succ]
      refine wpAnyH_take (i := 8) (v := ?_) (by simp only [List.getElem?_toArray, List.getElem?_cons_succ, List.getElem?_cons_zero]; rfl) (by kernel_rfl) (by kernel_rfl) (by kernel_rfl) (by exact fun _ _ _ h => h) (Or.inl ⟨by rfl, ?_⟩) hHeld ?_
      rotate_left
      · intro w hSw; (try dsimp only at hSw); go_simp; (try with_reducible rfl)
      try simp only [Act.put, List.setIfInBounds_toArray, List.set_cons_zero, List.set_cons_succ]
      refine wpAnyH_take (i := 9) (v := ?_) (by simp only [List.getElem?_toArray, List.getElem?_cons_succ, List.getElem?_cons_zero]; rfl) (by kernel_rfl) (by kernel_rfl) (by kernel_rfl) (by exact fun _ _ _ h => h) (Or.inl ⟨by rfl, ?_⟩) hHeld ?_
      rotate_left
      · intro w hSw; (try dsimp only at hSw); go_simp; (try with_reducible rfl)
      try simp only [Act.put, List.setIfInBounds_toArray, List.set_cons_zero, List.set_cons_succ]
      refine wpAnyH_ready (rs := [4]) (by kernel_rfl) (by simp) ?_
      refine AllReadyH.cons (by simp only [List.getElem?_toArray, List.getElem?_cons_succ, List.getElem?_cons_zero]; rfl) (fun kC hkC => ?_) AllReadyH.nil
      go_simp
      refine (rlock_lit 2 2 4 0 2 l 0 A HLK.out _).mono ?_; rintro e w2 ⟨rfl, hk2⟩; have hb2 := hbd.no hk2; have ha2 := hmd.keep hk2 (fun f => f) (fun _ _ f => f)
      (try go_wp2_with fail)
      refine hkC.out _ _ (hb2.two) (fun hHeld => ?_)
      clear hkC kC
      try simp only [Act.put, List.setIfInBounds_toArray, List.set_cons_zero, List.set_cons_succ]
      refine wpAnyH_ready (rs := [10]) (by kernel_rfl) (by simp) ?_
      refine AllReadyH.cons (by simp only [List.getElem?_toArray, List.getElem?_cons_succ, List.getElem?_cons_zero]; rfl) (fun kC hkC => ?_) AllReadyH.nil
      go_simp
      refine (HID.out _).mono ?_; rintro e w3 ⟨rfl, hk3⟩; have hb3 := hb2.no hk3; have ha3 := ha2.keep hk3 (fun f => f) (fun _ _ f => f)
      (try go_wp2_with fail)
      refine hkC.out _ _ (hb3.two) (fun hHeld => ?_)
      clear hkC kC
      try simp only [Act.put, List.setIfInBounds_toArray, List.set_cons_zero, List.set_cons_succ]
      refine wpAnyH_ready (rs := [11]) (by kernel_rfl) (by simp) ?_
      refine AllReadyH.cons (by simp only [List.getElem?_toArray, List.getElem?_cons_succ, List.getElem?_cons_zero]; rfl) (fun kC hkC => ?_) AllReadyH.nil
      go_simp
      rw [← HAA.out]; refine (rswap_yes a v M (tlA l) y 0 _ ha3 HNT.out HQ.out).mono ?_; rw [HC.out]; rintro e w4 ⟨rfl, hm, hk4⟩; have hb4 := hb3.own hk4 ha HV.out
      (try go_wp2_with fail)
      refine hkC.out _ _ (hb4.two) (fun hHeld => ?_)
      clear hkC kC
      try simp only [Act.put, List.setIfInBounds_toArray, List.set_cons_zero, List.set_cons_succ]
      refine wpAnyH_take (i := 12) (v := ?_) (by simp only [List.getElem?_toArray, List.getElem?_cons_succ, List.getElem?_cons_zero]; rfl) (by kernel_rfl) (by kernel_rfl) (by kernel_rfl) (by exact fun _ _ _ h => h) (Or.inl ⟨by rfl, ?_⟩) hHeld ?_
      rotate_left
      · intro w hSw; (try dsimp only at hSw); go_simp; (try with_reducible rfl)
      try simp only [Act.put, List.setIfInBounds_toArray, List.set_cons_zero, List.set_cons_succ]
      refine wpAnyH_take (i := 13) (v := ?_) (by simp only [List.getElem?_toArray, List.getElem?_cons_succ, List.getElem?_cons_zero]; rfl) (by kernel_rfl) (by kernel_rfl) (by kernel_rfl) (by exact fun _ _ _ h => h) (Or.inl ⟨by rfl, ?_⟩) hHeld ?_
      rotate_left
      · intro w hSw; (try dsimp only at hSw); go_simp; (try with_reducible rfl)
      try simp only [Act.put, List.setIfInBounds_toArray, List.set_cons_zero, List.set_cons_succ]
      refine wpAnyH_take (i := 14) (v := ?_) (by simp only [List.getElem?_toArray, List.getElem?_cons_succ, List.getElem?_cons_zero]; rfl) (by kernel_rfl) (by kernel_rfl) (by kernel_rfl) (by exact fun _ _ _ h => h) (Or.inl ⟨by rfl, ?_⟩) hHeld ?_
      rotate_left
      · intro w hSw; (try dsimp only at hSw); go_simp; (try with_reducible rfl)
      try simp only [Act.put, List.setIfInBounds_toArray, List.set_cons_zero, List.set_cons_succ]
      refine wpAnyH_take (i := 15) (v := ?_) (by simp only [List.getElem?_toArray, List.getElem?_cons_succ, List.getElem?_cons_zero]; rfl) (by kernel_rfl) (by kernel_rfl) (by kernel_rfl) (by exact fun _ _ _ h => h) (Or.inl ⟨by rfl, ?_⟩) hHeld ?_
      rotate_left
      · intro w hSw; (try dsimp only at hSw); go_simp; (try with_reducible rfl)
      try simp only [Act.put, List.setIfInBounds_toArray, List.set_cons_zero, List.set_cons_succ]
      refine wpAnyH_take (i := 16) (v := ?_) (by simp only [List.getElem?_toArray, List.getElem?_cons_succ, List.getElem?_cons_zero]; rfl) (by kernel_rfl) (by kernel_rfl) (by kernel_rfl) (by exact fun _ _ _ h => h) (Or.inl ⟨by rfl, ?_⟩) hHeld ?_
      rotate_left
      · intro w hSw; (try dsimp only at hSw); go_simp; (try with_reducible rfl)
      try simp only [Act.put, List.setIfInBounds_toArray, List.set_cons_zero, List.set_cons_succ]
      refine wpAnyH_take (i := 17) (v := ?_) (by simp only [List.getElem?_toArray, List.getElem?_cons_succ, List.getElem?_cons_zero]; rfl) (by kernel_rfl) (by kernel_rfl) (by kernel_rfl) (by exact fun _ _ _ h => h) (Or.inl ⟨by rfl, ?_⟩) hHeld ?_
      rotate_left
      · intro w hSw; (try dsimp only at hSw); go_simp; (try with_reducible rfl)
      try simp only [Act.put, List.setIfInBounds_toArray, List.set_cons_zero, List.set_cons_succ]
      refine wpAnyH_take (i := 18) (v := ?_) (by simp only [List.getElem?_toArray, List.getElem?_cons_succ, List.getElem?_cons_zero]; rfl) (by kernel_rfl) (by kernel_rfl) (by kernel_rfl) (by exact fun _ _ _ h => h) (Or.inl ⟨by rfl, ?_⟩) hHeld ?_
      rotate_left
      · intro w hSw; (try dsimp only at hSw); go_simp; (try with_reducible rfl)
      try simp only [Act.put, List.setIfInBounds_toArray, List.set_cons_zero, List.set_cons_succ]
      refine wpAnyH_done (by kernel_rfl) ?_ _
      clear m0 m1 m2 m3 m4 c0 c1 c2 c3 c4 r0 r1 r2 r3 r4 f0 f1 f2 f3 f4 g0 g1 g2 g3 g4 z1 z2
      obtain ⟨⟨m0, m1, m2, m3, m4⟩, ⟨c0, c1, c2, c3, c4⟩, ⟨r0, r1, r2, r3, r4⟩, ⟨f0, f1, f2, f3, f4⟩, ⟨g0, g1, g2, g3, g4⟩, z1, z2⟩ := hb4.facts
      have hkk : Keeps (own2m a v) w w4 := (((HK5.out.trans (Keeps.refl NoS w5).drew).trans hk2).trans hk3).no.trans hk4
      clear hb4 hb3 hb2 hbd hmd ha2 ha3
      go_wp2_with fail
      refine bodyPost_ret (v := .agg #[.int .i64 t, .int .i64 l, .int .i64 0, .bool r, .int .i64 x]) (by simp [results, Try.results33, go_sem, *]) rfl ⟨rfl, ?_, ?_⟩
      · repeat (first | (with_reducible exact hm) | refine MemT.set (B := B) ?_ ha HV.out _ (by show B ≤ _; dsimp only; omega) _)
      · repeat (first | (with_reducible exact hkk) | refine kset HB.out ?_ _ (by show B ≤ _; dsimp only; omega) _)
    · have hq : (M.word (tlA l) == y) = false := by rw [hc]; simpa using hcy
      rw [hc, if_neg hcy]
      have HQ := Lib.hid hq
      clear hq hc hcy
      unfold handV
      dsimp only
      go_enter Try.func33, Try.ntmps33
      go_wp2_with fail
      rw [HB.out]
      refine (rmay8_any t l 7 r x _).mono ?_
      rw [HOK.out]
      rintro e w1 ⟨rfl, hk1⟩
      have hb1 := HBX.out.no hk1
      have hm1 := HA2.out.keep hk1 (fun f => f) (fun _ _ f => f)
      obtain ⟨⟨m0, m1, m2, m3, m4⟩, ⟨c0, c1, c2, c3, c4⟩, ⟨r0, r1, r2, r3, r4⟩, ⟨f0, f1, f2, f3, f4⟩, ⟨g0, g1, g2, g3, g4⟩, z1, z2⟩ := hb1.facts
      have HB1 := Lib.hid hb1; have HM1 := Lib.hid hm1; have HK1 := Lib.hid (HK.out.trans hk1)
      clear hb1 hm1
      go_wp2_with (go_at_call 29; refine (rnode_lit 2 2 4 0 2 t l 1 _ HG1.out _).mono ?_; rintro e w5 ⟨rfl, hk5⟩; have hb5 := HB1.out.no hk5; have hm5 := HM1.out.keep hk5 (fun f => f) (fun _ _ f => f); obtain ⟨⟨m0, m1, m2, m3, m4⟩, ⟨c0, c1, c2, c3, c4⟩, ⟨r0, r1, r2, r3, r4⟩, ⟨f0, f1, f2, f3, f4⟩, ⟨g0, g1, g2, g3, g4⟩, z1, z2⟩ := hb5.facts; have HB5 := Lib.hid hb5; have HM5 := Lib.hid hm5; have HK5 := Lib.hid (HK1.out.trans hk5); clear hb5 hm5)
      have hbd := HB5.out.no ((Keeps.refl NoS w5).drew)
      have hmd := HM5.out.keep ((Keeps.refl NoS w5).drew) (fun f => f) (fun _ _ f => f)
      refine wp_region_held_drew (S := (fun w' => (w'.cell? ⟨B, 0, none⟩ = some (.int .i64 2) ∧ w'.cell? ⟨B, 1, none⟩ = some (.int .i64 2) ∧ w'.cell? ⟨B, 2, none⟩ = some (.int .i64 4) ∧ w'.cell? ⟨B, 3, none⟩ = some (.int .i64 0) ∧ w'.cell? ⟨B, 4, none⟩ = some (.int .i64 2)) ∧ (w'.cell? ⟨(B + 1), 0, none⟩ = some (.int .i64 t) ∧ w'.cell? ⟨(B + 1), 1, none⟩ = some (.int .i64 l) ∧ w'.cell? ⟨(B + 1), 2, none⟩ = some (.int .i64 7) ∧ w'.cell? ⟨(B + 1), 3, none⟩ = some (.bool r) ∧ w'.cell? ⟨(B + 1), 4, none⟩ = some (.int .i64 x)))) (by kernel_rfl) (hbd.two) (fun hHeld => ?_)
      refine wpAnyH_take (i := 0) (v := ?_) (by simp only [List.getElem?_toArray, List.getElem?_cons_succ, List.getElem?_cons_zero]; rfl) (by kernel_rfl) (by kernel_rfl) (by kernel_rfl) (by exact fun _ _ _ h => h) (Or.inl ⟨by rfl, ?_⟩) hHeld ?_
      rotate_left
      · intro w hSw; (try dsimp only at hSw); go_simp; (try with_reducible rfl)
      try simp only [Act.put, List.setIfInBounds_toArray, List.set_cons_zero, List.set_cons_succ]
      refine wpAnyH_take (i := 1) (v := ?_) (by simp only [List.getElem?_toArray, List.getElem?_cons_succ, List.getElem?_cons_zero]; rfl) (by kernel_rfl) (by kernel_rfl) (by kernel_rfl) (by exact fun _ _ _ h => h) (Or.inl ⟨by rfl, ?_⟩) hHeld ?_
      rotate_left
      · intro w hSw; (try dsimp only at hSw); go_simp; (try with_reducible rfl)
      try simp only [Act.put, List.setIfInBounds_toArray, List.set_cons_zero, List.set_cons_succ]
      refine wpAnyH_take (i := 2) (v := ?_) (by simp only [List.getElem?_toArray, List.getElem?_cons_succ, List.getElem?_cons_zero]; rfl) (by kernel_rfl) (by kernel_rfl) (by kernel_rfl) (by exact fun _ _ _ h => h) (Or.inl ⟨by rfl, ?_⟩) hHeld ?_
      rotate_left
      · intro w hSw; (try dsimp only at hSw); go_simp; (try with_reducible rfl)
      try simp only [Act.put, List.setIfInBounds_toArray, List.set_cons_zero, List.set_cons_succ]
      refine wpAnyH_take (i := 3) (v := ?_) (by simp only [List.getElem?_toArray, List.getElem?_cons_succ, List.getElem?_cons_zero]; rfl) (by kernel_rfl) (by kernel_rfl) (by kernel_rfl) (by exact fun _ _ _ h => h) (Or.inl ⟨by rfl, ?_⟩) hHeld ?_
      rotate_left
      · intro w hSw; (try dsimp only at hSw); go_simp; (try with_reducible rfl)
      try simp only [Act.put, List.setIfInBounds_toArray, List.set_cons_zero, List.set_cons_succ]
      refine wpAnyH_take (i := 5) (v := ?_) (by simp only [List.getElem?_toArray, List.getElem?_cons_succ, List.getElem?_cons_zero]; rfl) (by kernel_rfl) (by kernel_rfl) (by kernel_rfl) (by exact fun _ _ _ h => h) (Or.inl ⟨by rfl, ?_⟩) hHeld ?_
      rotate_left
      · intro w hSw; (try dsimp only at hSw); go_simp; (try with_reducible rfl)
      try simp only [Act.put, List.setIfInBounds_toArray, List.set_cons_zero, List.set_cons_succ]
      refine wpAnyH_take (i := 6) (v := ?_) (by simp only [List.getElem?_toArray, List.getElem?_cons_succ, List.getElem?_cons_zero]; rfl) (by kernel_rfl) (by kernel_rfl) (by kernel_rfl) (by exact fun _ _ _ h => h) (Or.inl ⟨by rfl, ?_⟩) hHeld ?_
      rotate_left
      · intro w hSw; (try dsimp only at hSw); go_simp; (try with_reducible rfl)
      try simp only [Act.put, List.setIfInBounds_toArray, List.set_cons_zero, List.set_cons_succ]
      refine wpAnyH_take (i := 7) (v := ?_) (by simp only [List.getElem?_toArray, List.getElem?_cons_succ, List.getElem?_cons_zero]; rfl) (by kernel_rfl) (by kernel_rfl) (by kernel_rfl) (by exact fun _ _ _ h => h) (Or.inl ⟨by rfl, ?_⟩) hHeld ?_
      rotate_left
      · intro w hSw; (try dsimp only at hSw); go_simp; (try with_reducible rfl)
      try simp only [Act.put, List.setIfInBounds_toArray, List.set_cons_zero, List.set_cons_succ]
      refine wpAnyH_take (i := 8) (v := ?_) (by simp only [List.getElem?_toArray, List.getElem?_cons_succ, List.getElem?_cons_zero]; rfl) (by kernel_rfl) (by kernel_rfl) (by kernel_rfl) (by exact fun _ _ _ h => h) (Or.inl ⟨by rfl, ?_⟩) hHeld ?_
      rotate_left
      · intro w hSw; (try dsimp only at hSw); go_simp; (try with_reducible rfl)
      try simp only [Act.put, List.setIfInBounds_toArray, List.set_cons_zero, List.set_cons_succ]
      refine wpAnyH_take (i := 9) (v := ?_) (by simp only [List.getElem?_toArray, List.getElem?_cons_succ, List.getElem?_cons_zero]; rfl) (by kernel_rfl) (by kernel_rfl) (by kernel_rfl) (by exact fun _ _ _ h => h) (Or.inl ⟨by rfl, ?_⟩) hHeld ?_
      rotate_left
      · intro w hSw; (try dsimp only at hSw); go_simp; (try with_reducible rfl)
      try simp only [Act.put, List.setIfInBounds_toArray, List.set_cons_zero, List.set_cons_succ]
      refine wpAnyH_ready (rs := [4]) (by kernel_rfl) (by simp) ?_
      refine AllReadyH.cons (by simp only [List.getElem?_toArray, List.getElem?_cons_succ, List.getElem?_cons_zero]; rfl) (fun kC hkC => ?_) AllReadyH.nil
      go_simp
      refine (rlock_lit 2 2 4 0 2 l 0 A HLK.out _).mono ?_; rintro e w2 ⟨rfl, hk2⟩; have hb2 := hbd.no hk2; have ha2 := hmd.keep hk2 (fun f => f) (fun _ _ f => f)
      (try go_wp2_with fail)
      refine hkC.out _ _ (hb2.two) (fun hHeld => ?_)
      clear hkC kC
      try simp only [Act.put, List.setIfInBounds_toArray, List.set_cons_zero, List.set_cons_succ]
      refine wpAnyH_ready (rs := [10]) (by kernel_rfl) (by simp) ?_
      refine AllReadyH.cons (by simp only [List.getElem?_toArray, List.getElem?_cons_succ, List.getElem?_cons_zero]; rfl) (fun kC hkC => ?_) AllReadyH.nil
      go_simp
      refine (HID.out _).mono ?_; rintro e w3 ⟨rfl, hk3⟩; have hb3 := hb2.no hk3; have ha3 := ha2.keep hk3 (fun f => f) (fun _ _ f => f)
      (try go_wp2_with fail)
      refine hkC.out _ _ (hb3.two) (fun hHeld => ?_)
      clear hkC kC
      try simp only [Act.put, List.setIfInBounds_toArray, List.set_cons_zero, List.set_cons_succ]
      refine wpAnyH_ready (rs := [11]) (by kernel_rfl) (by simp) ?_
      refine AllReadyH.cons (by simp only [List.getElem?_toArray, List.getElem?_cons_succ, List.getElem?_cons_zero]; rfl) (fun kC hkC => ?_) AllReadyH.nil
      go_simp
      rw [← HAA.out]; refine (rswap_no a v M (tlA l) y 0 _ ha3 HNT.out HQ.out).mono ?_; rw [HC.out]; rintro e w4 ⟨rfl, hm, hk4⟩; have hb4 := hb3.own hk4 ha HV.out
      (try go_wp2_with fail)
      refine hkC.out _ _ (hb4.two) (fun hHeld => ?_)
      clear hkC kC
      try simp only [Act.put, List.setIfInBounds_toArray, List.set_cons_zero, List.set_cons_succ]
      refine wpAnyH_take (i := 12) (v := ?_) (by simp only [List.getElem?_toArray, List.getElem?_cons_succ, List.getElem?_cons_zero]; rfl) (by kernel_rfl) (by kernel_rfl) (by kernel_rfl) (by exact fun _ _ _ h => h) (Or.inl ⟨by rfl, ?_⟩) hHeld ?_
      rotate_left
      · intro w hSw; (try dsimp only at hSw); go_simp; (try with_reducible rfl)
      try simp only [Act.put, List.setIfInBounds_toArray, List.set_cons_zero, List.set_cons_succ]
      refine wpAnyH_take (i := 13) (v := ?_) (by simp only [List.getElem?_toArray, List.getElem?_cons_succ, List.getElem?_cons_zero]; rfl) (by kernel_rfl) (by kernel_rfl) (by kernel_rfl) (by exact fun _ _ _ h => h) (Or.inl ⟨by rfl, ?_⟩) hHeld ?_
      rotate_left
      · intro w hSw; (try dsimp only at hSw); go_simp; (try with_reducible rfl)
      try simp only [Act.put, List.setIfInBounds_toArray, List.set_cons_zero, List.set_cons_succ]
      refine wpAnyH_take (i := 14) (v := ?_) (by simp only [List.getElem?_toArray, List.getElem?_cons_succ, List.getElem?_cons_zero]; rfl) (by kernel_rfl) (by kernel_rfl) (by kernel_rfl) (by exact fun _ _ _ h => h) (Or.inl ⟨by rfl, ?_⟩) hHeld ?_
      rotate_left
      · intro w hSw; (try dsimp only at hSw); go_simp; (try with_reducible rfl)
      try simp only [Act.put, List.setIfInBounds_toArray, List.set_cons_zero, List.set_cons_succ]
      refine wpAnyH_take (i := 15) (v := ?_) (by simp only [List.getElem?_toArray, List.getElem?_cons_succ, List.getElem?_cons_zero]; rfl) (by kernel_rfl) (by kernel_rfl) (by kernel_rfl) (by exact fun _ _ _ h => h) (Or.inl ⟨by rfl, ?_⟩) hHeld ?_
      rotate_left
      · intro w hSw; (try dsimp only at hSw); go_simp; (try with_reducible rfl)
      try simp only [Act.put, List.setIfInBounds_toArray, List.set_cons_zero, List.set_cons_succ]
      refine wpAnyH_take (i := 16) (v := ?_) (by simp only [List.getElem?_toArray, List.getElem?_cons_succ, List.getElem?_cons_zero]; rfl) (by kernel_rfl) (by kernel_rfl) (by kernel_rfl) (by exact fun _ _ _ h => h) (Or.inl ⟨by rfl, ?_⟩) hHeld ?_
      rotate_left
      · intro w hSw; (try dsimp only at hSw); go_simp; (try with_reducible rfl)
      try simp only [Act.put, List.setIfInBounds_toArray, List.set_cons_zero, List.set_cons_succ]
      refine wpAnyH_take (i := 17) (v := ?_) (by simp only [List.getElem?_toArray, List.getElem?_cons_succ, List.getElem?_cons_zero]; rfl) (by kernel_rfl) (by kernel_rfl) (by kernel_rfl) (by exact fun _ _ _ h => h) (Or.inl ⟨by rfl, ?_⟩) hHeld ?_
      rotate_left
      · intro w hSw; (try dsimp only at hSw); go_simp; (try with_reducible rfl)
      try simp only [Act.put, List.setIfInBounds_toArray, List.set_cons_zero, List.set_cons_succ]
      refine wpAnyH_take (i := 18) (v := ?_) (by simp only [List.getElem?_toArray, List.getElem?_cons_succ, List.getElem?_cons_zero]; rfl) (by kernel_rfl) (by kernel_rfl) (by kernel_rfl) (by exact fun _ _ _ h => h) (Or.inl ⟨by rfl, ?_⟩) hHeld ?_
      rotate_left
      · intro w hSw; (try dsimp only at hSw); go_simp; (try with_reducible rfl)
      try simp only [Act.put, List.setIfInBounds_toArray, List.set_cons_zero, List.set_cons_succ]
      refine wpAnyH_done (by kernel_rfl) ?_ _
      clear m0 m1 m2 m3 m4 c0 c1 c2 c3 c4 r0 r1 r2 r3 r4 f0 f1 f2 f3 f4 g0 g1 g2 g3 g4 z1 z2
      obtain ⟨⟨m0, m1, m2, m3, m4⟩, ⟨c0, c1, c2, c3, c4⟩, ⟨r0, r1, r2, r3, r4⟩, ⟨f0, f1, f2, f3, f4⟩, ⟨g0, g1, g2, g3, g4⟩, z1, z2⟩ := hb4.facts
      have hkk : Keeps (own2m a v) w w4 := (((HK5.out.trans (Keeps.refl NoS w5).drew).trans hk2).trans hk3).no.trans hk4
      clear hb4 hb3 hb2 hbd hmd ha2 ha3
      go_wp2_with fail
      refine bodyPost_ret (v := .agg #[.int .i64 t, .int .i64 l, .int .i64 6, .bool r, .int .i64 x]) (by simp [results, Try.results33, go_sem, *]) rfl ⟨rfl, ?_, ?_⟩
      · repeat (first | (with_reducible exact hm) | refine MemT.set (B := B) ?_ ha HV.out _ (by show B ≤ _; dsimp only; omega) _)
      · repeat (first | (with_reducible exact hkk) | refine kset HB.out ?_ _ (by show B ≤ _; dsimp only; omega) _)
  by_cases s8 : s = 8
  · subst s8
    cases hth : thN l x with
    | none =>
      have hnd : ndI l x 0 = -1 := by unfold ndI; rw [hth]
      rw [show mDrop M t l 8 r x = (M, ⟨t, l, 8, r, x⟩) by (unfold mDrop; rw [if_neg (show ¬ ((8 : Int) = 9 ∨ (8 : Int) = 6) by decide), if_neg (show ¬ (8 : Int) = 7 by decide), if_pos rfl, hth])]
      have HND := Lib.hid hnd
      clear hnd hth
      unfold handV
      dsimp only
      go_enter Try.func33, Try.ntmps33
      go_wp2_with fail
      rw [HB.out]
      refine (rmay8_any t l 8 r x _).mono ?_
      rw [HOK.out]
      rintro e w1 ⟨rfl, hk1⟩
      have hb1 := HBX.out.no hk1
      have hm1 := HA2.out.keep hk1 (fun f => f) (fun _ _ f => f)
      obtain ⟨⟨m0, m1, m2, m3, m4⟩, ⟨c0, c1, c2, c3, c4⟩, ⟨r0, r1, r2, r3, r4⟩, ⟨f0, f1, f2, f3, f4⟩, ⟨g0, g1, g2, g3, g4⟩, z1, z2⟩ := hb1.facts
      have HB1 := Lib.hid hb1; have HM1 := Lib.hid hm1; have HK1 := Lib.hid (HK.out.trans hk1)
      clear hb1 hm1
      go_wp2_with (first
        | (go_at_call 29; refine (rnode_lit 2 2 4 0 2 t l 1 _ HG1.out _).mono ?_; rintro e w5 ⟨rfl, hk5⟩; have hb5 := HB1.out.no hk5; have hm5 := HM1.out.keep hk5 (fun f => f) (fun _ _ f => f); obtain ⟨⟨m0, m1, m2, m3, m4⟩, ⟨c0, c1, c2, c3, c4⟩, ⟨r0, r1, r2, r3, r4⟩, ⟨f0, f1, f2, f3, f4⟩, ⟨g0, g1, g2, g3, g4⟩, z1, z2⟩ := hb5.facts; have HB5 := Lib.hid hb5; have HM5 := Lib.hid hm5; have HK5 := Lib.hid (HK1.out.trans hk5); clear hb5 hm5)
        | (go_at_call 67; refine (rnode8_any l 0 x hl (by decide) _).mono ?_; rw [HND.out]; rintro e w7 ⟨rfl, hk7⟩; have hb7 := HB5.out.no hk7; have hm7 := HM5.out.keep hk7 (fun f => f) (fun _ _ f => f); obtain ⟨⟨m0, m1, m2, m3, m4⟩, ⟨c0, c1, c2, c3, c4⟩, ⟨r0, r1, r2, r3, r4⟩, ⟨f0, f1, f2, f3, f4⟩, ⟨g0, g1, g2, g3, g4⟩, z1, z2⟩ := hb7.facts; have HB7 := Lib.hid hb7; have HM7 := Lib.hid hm7; clear hb7 hm7))
      have hm := HM7.out
      have hkk : Keeps (own2m a v) w w7 := (HK5.out.trans hk7).no
      refine bodyPost_ret (v := .agg #[.int .i64 t, .int .i64 l, .int .i64 8, .bool r, .int .i64 x]) (by simp [results, Try.results33, go_sem, *]) rfl ⟨rfl, ?_, ?_⟩
      · repeat (first | (with_reducible exact hm) | refine MemT.set (B := B) ?_ ha HV.out _ (by show B ≤ _; dsimp only; omega) _)
      · repeat (first | (with_reducible exact hkk) | refine kset HB.out ?_ _ (by show B ≤ _; dsimp only; omega) _)
    | some u =>
      have hu4 := (thN_lt hth).1
      have hnd : ndI l x 0 = (ndA u l 0 : Nat) := by unfold ndI; rw [hth]
      rw [show mDrop M t l 8 r x = (M.store (ndA u l 0) 0, ⟨t, l, 0, r, 0⟩) by (unfold mDrop; rw [if_neg (show ¬ ((8 : Int) = 9 ∨ (8 : Int) = 6) by decide), if_neg (show ¬ (8 : Int) = 7 by decide), if_pos rfl, hth])]
      have HND := Lib.hid hnd
      have HNU := Lib.hid (show ndA u l 0 < M.L.length by rw [HL.out]; exact ndA_lt hu4 hl (by decide))
      clear hnd hth
      generalize ndA u l 0 = n1 at *
      have hn1 : (0 : Int) ≤ (n1 : Int) := by omega
      unfold handV
      dsimp only
      go_enter Try.func33, Try.ntmps33
      go_wp2_with fail
      rw [HB.out]
      refine (rmay8_any t l 8 r x _).mono ?_
      rw [HOK.out]
      rintro e w1 ⟨rfl, hk1⟩
      have hb1 := HBX.out.no hk1
      have hm1 := HA2.out.keep hk1 (fun f => f) (fun _ _ f => f)
      obtain ⟨⟨m0, m1, m2, m3, m4⟩, ⟨c0, c1, c2, c3, c4⟩, ⟨r0, r1, r2, r3, r4⟩, ⟨f0, f1, f2, f3, f4⟩, ⟨g0, g1, g2, g3, g4⟩, z1, z2⟩ := hb1.facts
      have HB1 := Lib.hid hb1; have HM1 := Lib.hid hm1; have HK1 := Lib.hid (HK.out.trans hk1)
      clear hb1 hm1
      go_wp2_with (first
        | (go_at_call 29; refine (rnode_lit 2 2 4 0 2 t l 1 _ HG1.out _).mono ?_; rintro e w5 ⟨rfl, hk5⟩; have hb5 := HB1.out.no hk5; have hm5 := HM1.out.keep hk5 (fun f => f) (fun _ _ f => f); obtain ⟨⟨m0, m1, m2, m3, m4⟩, ⟨c0, c1, c2, c3, c4⟩, ⟨r0, r1, r2, r3, r4⟩, ⟨f0, f1, f2, f3, f4⟩, ⟨g0, g1, g2, g3, g4⟩, z1, z2⟩ := hb5.facts; have HB5 := Lib.hid hb5; have HM5 := Lib.hid hm5; have HK5 := Lib.hid (HK1.out.trans hk5); clear hb5 hm5)
        | (go_at_call 67; refine (rnode8_any l 0 x hl (by decide) _).mono ?_; rw [HND.out]; rintro e w7 ⟨rfl, hk7⟩; have hb7 := HB5.out.no hk7; have hm7 := HM5.out.keep hk7 (fun f => f) (fun _ _ f => f); obtain ⟨⟨m0, m1, m2, m3, m4⟩, ⟨c0, c1, c2, c3, c4⟩, ⟨r0, r1, r2, r3, r4⟩, ⟨f0, f1, f2, f3, f4⟩, ⟨g0, g1, g2, g3, g4⟩, z1, z2⟩ := hb7.facts; have HB7 := Lib.hid hb7; have HM7 := Lib.hid hm7; clear hb7 hm7)
        | (go_at_call 68; refine (rstore_ok a v M n1 0 _ HM7.out HNU.out).mono ?_; rintro e w4 ⟨rfl, hm, hk4⟩; have hb4 := HB7.out.own hk4 ha HV.out; obtain ⟨⟨m0, m1, m2, m3, m4⟩, ⟨c0, c1, c2, c3, c4⟩, ⟨r0, r1, r2, r3, r4⟩, ⟨f0, f1, f2, f3, f4⟩, ⟨g0, g1, g2, g3, g4⟩, z1, z2⟩ := hb4.facts; have hkk : Keeps (own2m a v) w w4 := (HK5.out.trans hk7).no.trans hk4; clear hb4))
      refine bodyPost_ret (v := .agg #[.int .i64 t, .int .i64 l, .int .i64 0, .bool r, .int .i64 0]) (by simp [results, Try.results33, go_sem, *]) rfl ⟨rfl, ?_, ?_⟩
      · repeat (first | (with_reducible exact hm) | refine MemT.set (B := B) ?_ ha HV.out _ (by show B ≤ _; dsimp only; omega) _)
      · repeat (first | (with_reducible exact hkk) | refine kset HB.out ?_ _ (by show B ≤ _; dsimp only; omega) _)
  rw [show mDrop M t l s r x = (M, ⟨t, l, s, r, x⟩) by unfold mDrop; rw [if_neg (fun h => h.elim s9 s6), if_neg s7, if_neg s8]]
  have e9 : (s == 9) = false := by simpa using s9
  have e6 : (s == 6) = false := by simpa using s6
  have e7 : (s == 7) = false := by simpa using s7
  have e8 : (s == 8) = false := by simpa using s8
  clear s9 s6 s7 s8
  unfold handV
  dsimp only
  go_enter Try.func33, Try.ntmps33
  go_wp2_with fail
  rw [HB.out]
  refine (rmay8_any t l s r x _).mono ?_
  rw [HOK.out]
  rintro e w1 ⟨rfl, hk1⟩
  have hb1 := HBX.out.no hk1
  have hm1 := HA2.out.keep hk1 (fun f => f) (fun _ _ f => f)
  obtain ⟨⟨m0, m1, m2, m3, m4⟩, ⟨c0, c1, c2, c3, c4⟩, ⟨r0, r1, r2, r3, r4⟩, ⟨f0, f1, f2, f3, f4⟩, ⟨g0, g1, g2, g3, g4⟩, z1, z2⟩ := hb1.facts
  have HB1 := Lib.hid hb1; have HM1 := Lib.hid hm1; have HK1 := Lib.hid (HK.out.trans hk1)
  clear hb1 hm1
  go_wp2_with (go_at_call 29; refine (rnode_lit 2 2 4 0 2 t l 1 _ HG1.out _).mono ?_; rintro e w5 ⟨rfl, hk5⟩; have hb5 := HB1.out.no hk5; have hm5 := HM1.out.keep hk5 (fun f => f) (fun _ _ f => f); obtain ⟨⟨m0, m1, m2, m3, m4⟩, ⟨c0, c1, c2, c3, c4⟩, ⟨r0, r1, r2, r3, r4⟩, ⟨f0, f1, f2, f3, f4⟩, ⟨g0, g1, g2, g3, g4⟩, z1, z2⟩ := hb5.facts; have HB5 := Lib.hid hb5; have HM5 := Lib.hid hm5; have HK5 := Lib.hid (HK1.out.trans hk5); clear hb5 hm5)
  have hm := HM5.out
  have hkk : Keeps (own2m a v) w w5 := HK5.out.no
  refine bodyPost_ret (v := .agg #[.int .i64 t, .int .i64 l, .int .i64 s, .bool r, .int .i64 x]) (by simp [results, Try.results33, go_sem, *]) rfl ⟨rfl, ?_, ?_⟩
  · repeat (first | (with_reducible exact hm) | refine MemT.set (B := B) ?_ ha HV.out _ (by show B ≤ _; dsimp only; omega) _)
  · repeat (first | (with_reducible exact hkk) | refine kset HB.out ?_ _ (by show B ≤ _; dsimp only; omega) _)
end Go.Proofs.Ytjchcmomppfilaa
