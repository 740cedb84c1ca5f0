/- The document's hands, nodes, McsTake at layer 8's map. -/
import Derived.Test.YtjchcmomppfilaaMcsJoin
import Derived.Test.YtjchcmomppfilaaPlaceFind
namespace Go.Proofs.Ytjchcmomppfilaa
open Go.RowKit
theorem okH_eq (t l : Int) : okH t l = (decide (0 ≤ t) && decide (t < 4) && decide (0 ≤ l) && decide (l < 2)) := by
  by_cases h : 0 ≤ t ∧ t < 4 ∧ 0 ≤ l ∧ l < 2
  · obtain ⟨h1, h2, h3, h4⟩ := h
    obtain ⟨a, rfl⟩ := Int.eq_ofNat_of_zero_le h1
    obtain ⟨b, rfl⟩ := Int.eq_ofNat_of_zero_le h3
    rw [okH_nat (by omega) (by omega), decide_eq_true h1, decide_eq_true h2, decide_eq_true h3, decide_eq_true h4]; rfl
  · have e : okH t l = false := by unfold okH; rw [ndA_no h]; rfl
    rw [e]
    cases h' : (decide (0 ≤ t) && decide (t < 4) && decide (0 ≤ l) && decide (l < 2)) with
    | false => rfl
    | true => exact absurd (by simpa [and_assoc] using h') h
set_option maxHeartbeats 4000000 in
set_option maxRecDepth 100000 in
theorem rmay8_any (t l s : Int) (r : Bool) (x : Int) (w : World) : Calls Try.prog 64 #[.agg #[.int .i64 2, .int .i64 2, .int .i64 4, .int .i64 0, .int .i64 2], .agg #[.int .i64 t, .int .i64 l, .int .i64 s, .bool r, .int .i64 x]] w fun e w' => e = .returned (.bool (okH t l)) ∧ Keeps NoS w w' := by
  rw [okH_eq]
  have hB := mapAt_new w 2 2 4 0 2 54
  have hH := handAt_new (w.alloc (.cells #[.int .i64 2, .int .i64 2, .int .i64 4, .int .i64 0, .int .i64 2] 54)) 37 t l s r x
  have hk0 := ((Keeps.refl NoS w).alloc (.cells #[.int .i64 2, .int .i64 2, .int .i64 4, .int .i64 0, .int .i64 2] 54)).alloc (.cells #[.int .i64 t, .int .i64 l, .int .i64 s, .bool r, .int .i64 x] 37)
  have hB' := hB.keep ((Keeps.refl NoS _).alloc (.cells #[.int .i64 t, .int .i64 l, .int .i64 s, .bool r, .int .i64 x] 37)) (fun f => f)
  have hs1 : (w.alloc (.cells #[.int .i64 2, .int .i64 2, .int .i64 4, .int .i64 0, .int .i64 2] 54)).heap.size = w.heap.size + 1 := by simp
  rw [hs1] at hH
  obtain ⟨B, hBe⟩ : ∃ B, w.heap.size = B := ⟨_, rfl⟩
  rw [hBe] at hB' hH
  have HB := Lib.hid hBe; have HBB := Lib.hid hB'; have HHH := Lib.hid hH; have HK := Lib.hid hk0
  have hm : mayB ⟨2, 2, 4, 0, 2⟩ = true := by decide
  have HM := Lib.hid hm
  clear hB hs1 hBe hB' hH hk0 hm
  cases d1 : decide (0 ≤ t) <;> cases d2 : decide (t < 4) <;> cases d3 : decide (0 ≤ l) <;> cases d4 : decide (l < 2)
  all_goals
    go_enter Try.func64, Try.ntmps64
    go_wp2_with fail
    refine (rmay_any ⟨2, 2, 4, 0, 2⟩ _).mono ?_
    rw [HM.out]
    rintro e w1 ⟨rfl, hk1⟩
    obtain ⟨m0, m1, m2, m3, m4⟩ := HBB.out.keep hk1 (fun f => f)
    obtain ⟨c0, c1, c2, c3, c4, _⟩ := (HHH.out.keep hk1 (fun f => f)).cells
    rw [HB.out]
    go_wp2_with fail
    go_ret
    exact ⟨rfl, HK.out.trans hk1⟩
theorem id8_no {t l : Int} (h : okH t l = false) : idP ⟨2, 2, 4, 0, 2⟩ t l = 0 := by
  unfold okH at h
  have h' := of_decide_eq_false h
  unfold idP
  rw [if_pos (by omega)]
set_option maxHeartbeats 4000000 in
set_option maxRecDepth 100000 in
theorem rid_any (t l : Int) (w : World) : Calls Try.prog 37 #[.agg #[.int .i64 2, .int .i64 2, .int .i64 4, .int .i64 0, .int .i64 2], .int .i64 t, .int .i64 l] w fun e w' => e = .returned (.int .i64 (idP ⟨2, 2, 4, 0, 2⟩ t l)) ∧ Keeps NoS w w' := by
  have hB := mapAt_new w 2 2 4 0 2 54
  have hk0 := (Keeps.refl NoS w).alloc (.cells #[.int .i64 2, .int .i64 2, .int .i64 4, .int .i64 0, .int .i64 2] 54)
  cases hok : okH t l with
  | false =>
    rw [id8_no hok]
    have HOK := Lib.hid hok; have HB := Lib.hid hB; have HK := Lib.hid hk0
    obtain ⟨m0, m1, m2, m3, m4⟩ := hB
    clear hok hk0
    go_enter Try.func37, Try.ntmps37
    go_wp2_with fail
    refine (rmay8_any t l 0 false 0 _).mono ?_
    rw [HOK.out]
    rintro e w1 ⟨rfl, hk1⟩
    clear m0 m1 m2 m3 m4
    go_wp2_with fail
    go_ret
    exact ⟨rfl, HK.out.trans hk1⟩
  | true =>
    obtain ⟨a, b, rfl, rfl, ha, hb⟩ := okH_yes hok
    rw [id8 ha hb]
    have HOK := Lib.hid hok; have HB := Lib.hid hB; have HK := Lib.hid hk0
    have HI := Lib.hid (show idA a b = 1 + (a : Int) * 2 + b by unfold idA; omega)
    obtain ⟨m0, m1, m2, m3, m4⟩ := hB
    clear hok hk0
    obtain ⟨ta, hta⟩ : ∃ z : Int, (a : Int) = z := ⟨_, rfl⟩
    obtain ⟨lb, hlb⟩ : ∃ z : Int, (b : Int) = z := ⟨_, rfl⟩
    rw [hta, hlb] at HI HOK ⊢
    have t0 : 0 ≤ ta := by omega
    have t1 : ta < 4 := by omega
    have l0 : 0 ≤ lb := by omega
    have l1 : lb < 2 := by omega
    rw [HI.out]
    clear hta hlb ha hb HI
    go_enter Try.func37, Try.ntmps37
    go_wp2_with fail
    refine (rmay8_any ta lb 0 false 0 _).mono ?_
    rw [HOK.out]
    rintro e w1 ⟨rfl, hk1⟩
    clear m0 m1 m2 m3 m4
    obtain ⟨m0, m1, m2, m3, m4⟩ := HB.out.keep hk1 (fun f => f)
    go_wp2_with fail
    go_ret
    exact ⟨rfl, HK.out.trans hk1⟩
theorem rid8_any (t l : Nat) (ht : t < 4) (hl : l < 2) (w : World) : Calls Try.prog 37 #[.agg #[.int .i64 2, .int .i64 2, .int .i64 4, .int .i64 0, .int .i64 2], .int .i64 t, .int .i64 l] w fun e w' => e = .returned (.int .i64 (idA t l)) ∧ Keeps NoS w w' := by
  have h := rid_any t l w
  rw [id8 ht hl] at h
  exact h
set_option maxHeartbeats 4000000 in
set_option maxRecDepth 100000 in
theorem rnode8_any (l p : Nat) (x : Int) (hl : l < 2) (hp : p < 2) (w : World) : Calls Try.prog 67 #[.agg #[.int .i64 2, .int .i64 2, .int .i64 4, .int .i64 0, .int .i64 2], .int .i64 l, .int .i64 x, .int .i64 p] w fun e w' => e = .returned (.int .i64 (ndI l x p)) ∧ Keeps NoS w w' := by
  have hB := mapAt_new w 2 2 4 0 2 54
  have hk0 := (Keeps.refl NoS w).alloc (.cells #[.int .i64 2, .int .i64 2, .int .i64 4, .int .i64 0, .int .i64 2] 54)
  obtain ⟨R, hR⟩ : ∃ R, ndI l x p = R := ⟨_, rfl⟩
  rw [hR]
  have HR := Lib.hid hR
  clear hR
  go_enter Try.func67, Try.ntmps67
  go_wp2_with fail
  obtain ⟨B, hBe⟩ : ∃ B, w.heap.size = B := ⟨_, rfl⟩
  rw [hBe] at hB
  (try rw [hBe])
  clear hBe
  generalize w.alloc (.cells #[.int .i64 2, .int .i64 2, .int .i64 4, .int .i64 0, .int .i64 2] 54) = wa at *
  have HB := Lib.hid hB; have HK0 := Lib.hid hk0
  clear hB hk0
  go_loopw [9] (fun tv wq => ∃ k : Nat, k ≤ 4 ∧ tv = .int .i64 k ∧ Keeps NoS wa wq ∧ ∀ j, j < k → idA j l ≠ x) (fun tv _ => 4 - (intOf tv).toNat)
  case atStart => exact ⟨0, by omega, rfl, Keeps.refl _ _, fun j hj => absurd hj (by omega)⟩
  case round =>
    obtain ⟨k, hk, rfl, hkw, hno⟩ := hrel
    obtain ⟨c0, c1, c2, c3, c4⟩ := HB.out.keep hkw (fun f => f)
    have HNO := Lib.hid hno; have HKW := Lib.hid hkw
    clear hno hkw
    by_cases hk4 : k < 4
    · have k0 : (0 : Int) ≤ (k : Int) := by omega
      have k1 : (k : Int) < 4 := by omega
      have hpos : 1 ≤ idA k l := by unfold idA; omega
      have HID := Lib.hid (fun W => rid8_any k l hk4 hl W)
      have hy0 : (idA k l != 0) = true := by
        have : idA k l ≠ 0 := by omega
        simpa using this
      by_cases he : idA k l = x
      · have hnd : nodeP ⟨2, 2, 4, 0, 2⟩ k l p = R := by rw [← HR.out]; unfold ndI; rw [← he, thN_id hk4]; exact ndA_eq hk4 hl hp
        have HND := Lib.hid hnd
        clear hnd hpos
        subst he
        generalize idA k l = y at *
        go_wp2_with (first
          | (go_at_call 37; refine (HID.out _).mono ?_; rintro e w1 ⟨rfl, hk1⟩; obtain ⟨d0, d1, d2, d3, d4⟩ := (HB.out.keep HKW.out (fun f => f)).keep hk1 (fun f => f))
          | (go_at_call 29; refine (rnode_lit 2 2 4 0 2 k l p R HND.out _).mono ?_; rintro e w2 ⟨rfl, hk2⟩))
        go_ret
        exact ⟨rfl, HK0.out.trans ((HKW.out.trans hk1).trans hk2)⟩
      · have hq : (idA k l == x) = false := by simpa using he
        have HE := Lib.hid he
        clear he hpos
        generalize hy : idA k l = y at *
        have HY := Lib.hid hy
        clear hy
        go_wp2_with (go_at_call 37; refine (HID.out _).mono ?_; rintro e w1 ⟨rfl, hk1⟩)
        go_roundw
        case rel => exact ⟨k + 1, by omega, by go_num, HKW.out.trans hk1, fun j hj => by
          by_cases e : j = k
          · rw [e, HY.out]; exact HE.out
          · exact HNO.out j (by omega)⟩
        case measure => simp [intOf]; omega
    · obtain rfl : k = 4 := by omega
      have hre : R = -1 := by rw [← HR.out]; unfold ndI; rw [thN_none HNO.out]
      have HRE := Lib.hid hre
      clear hre
      go_wp2_with fail
      go_ret
      exact ⟨by rw [HRE.out]; rfl, HK0.out.trans HKW.out⟩
set_option maxHeartbeats 4000000 in
set_option maxRecDepth 100000 in
theorem rtake8_no (t l s : Int) (r : Bool) (x : Int) (a : Nat) (v : Value) (M : MemS) (w : World) (hok : okH t l = false) (hA : RefAt w a v M) (hl48 : M.L.length = 48) : Calls Try.prog 34 #[.agg #[.int .i64 2, .int .i64 2, .int .i64 4, .int .i64 0, .int .i64 2], .pointer (some ⟨a, 0, none⟩), .agg #[.int .i64 t, .int .i64 l, .int .i64 s, .bool r, .int .i64 x]] w fun e w' => e = .returned (.agg #[.int .i64 t, .int .i64 l, .int .i64 s, .bool r, .int .i64 x]) ∧ RefAt w' a v M ∧ Keeps (own2m a v) w w' := by
  have hbx := bx_new w 2 2 4 0 2 t l s r x 54
  have hk : Keeps NoS w (((w.alloc (.cells #[.int .i64 2, .int .i64 2, .int .i64 4, .int .i64 0, .int .i64 2] 54)).alloc (.cells #[.int .i64 t, .int .i64 l, .int .i64 s, .bool r, .int .i64 x] 37)).alloc (.cells #[.int .i64 0, .int .i64 0, .int .i64 0, .bool false, .int .i64 0] 37)) := (((Keeps.refl NoS w).alloc _).alloc _).alloc _
  have ha := blk_lt hA.hd
  have hv : ∀ g, v.ownBlock = some g → g < w.heap.size := fun g hg => hA.own_lt hg
  have hA2 := hA.keep hk (fun f => f) (fun _ _ f => f)
  obtain ⟨B, hB⟩ : ∃ B, w.heap.size = B := ⟨_, rfl⟩
  rw [hB] at hbx hv ha
  have HB := Lib.hid hB; have HA2 := Lib.hid hA2; have HK := Lib.hid hk; have HV := Lib.hid hv; have HBX := Lib.hid hbx; have HL := Lib.hid hl48
  clear hB hA2 hk hv hbx hl48 hA
  have HOK := Lib.hid hok
  clear hok
  go_enter Try.func34, Try.ntmps34
  go_wp2_with fail
  rw [HB.out]
  refine (rmay8_any t l s r x _).mono ?_
  rw [HOK.out]
  rintro e w1 ⟨rfl, hk1⟩
  have hb1 := HBX.out.no hk1
  obtain ⟨⟨m0, m1, m2, m3, m4⟩, ⟨c0, c1, c2, c3, c4⟩, ⟨r0, r1, r2, r3, r4⟩, ⟨f0, f1, f2, f3, f4⟩, ⟨g0, g1, g2, g3, g4⟩, z1, z2⟩ := hb1.facts
  have hm := HA2.out.keep hk1 (fun f => f) (fun _ _ f => f)
  have hkk : Keeps (own2m a v) w w1 := (HK.out.trans hk1).no
  clear hb1
  go_wp2_with fail
  refine bodyPost_ret (v := .agg #[.int .i64 t, .int .i64 l, .int .i64 s, .bool r, .int .i64 x]) (by simp [results, Try.results34, go_sem, *]) rfl ⟨rfl, ?_, ?_⟩
  · repeat (first | (with_reducible exact hm) | refine MemT.set (B := B) ?_ ha HV.out _ (by show B ≤ _; dsimp only; omega) _)
  · repeat (first | (with_reducible exact hkk) | refine kset HB.out ?_ _ (by show B ≤ _; dsimp only; omega) _)
set_option maxHeartbeats 20000000 in
set_option maxRecDepth 100000 in
theorem rtake8_yes (t l : Nat) (s : Int) (r : Bool) (x : Int) (a : Nat) (v : Value) (M : MemS) (w : World) (ht : t < 4) (hl : l < 2) (hA : RefAt w a v M) (hl48 : M.L.length = 48) : Calls Try.prog 34 #[.agg #[.int .i64 2, .int .i64 2, .int .i64 4, .int .i64 0, .int .i64 2], .pointer (some ⟨a, 0, none⟩), .agg #[.int .i64 t, .int .i64 l, .int .i64 s, .bool r, .int .i64 x]] w fun e w' => e = .returned (handV (mTake M t l s r x).2) ∧ RefAt w' a v (mTake M t l s r x).1 ∧ Keeps (own2m a v) w w' := by
  have HOK := Lib.hid (okH_nat ht hl)
  have hg0 : nodeP ⟨2, 2, 4, 0, 2⟩ t l 0 = (ndA t l 0 : Nat) := ndA_eq ht hl (p := 0) (by decide)
  have hg1 : nodeP ⟨2, 2, 4, 0, 2⟩ t l 1 = (ndA t l 1 : Nat) := ndA_eq ht hl (p := 1) (by decide)
  have HG0 := Lib.hid hg0; have HG1 := Lib.hid hg1
  have HN0 := Lib.hid (show ndA t l 0 < M.L.length by rw [hl48]; exact ndA_lt ht hl (by decide))
  have HN1 := Lib.hid (show ndA t l 1 < M.L.length by rw [hl48]; exact ndA_lt ht hl (by decide))
  have HNT := Lib.hid (show tlA l < M.L.length by rw [hl48]; exact tlA_lt hl)
  have HTL := Lib.hid (tlA_eq hl)
  have hid := fun W => rid8_any t l ht hl W
  obtain ⟨y, hy⟩ : ∃ y, idA t l = y := ⟨_, rfl⟩
  rw [hy] at hid
  have HYD := Lib.hid hy; have HID := Lib.hid hid
  clear hg0 hg1 hy hid
  have hbx := bx_new w 2 2 4 0 2 t l s r x 54
  have hk : Keeps NoS w (((w.alloc (.cells #[.int .i64 2, .int .i64 2, .int .i64 4, .int .i64 0, .int .i64 2] 54)).alloc (.cells #[.int .i64 t, .int .i64 l, .int .i64 s, .bool r, .int .i64 x] 37)).alloc (.cells #[.int .i64 0, .int .i64 0, .int .i64 0, .bool false, .int .i64 0] 37)) := (((Keeps.refl NoS w).alloc _).alloc _).alloc _
  have ha := blk_lt hA.hd
  have hv : ∀ g, v.ownBlock = some g → g < w.heap.size := fun g hg => hA.own_lt hg
  have hA2 := hA.keep hk (fun f => f) (fun _ _ f => f)
  obtain ⟨B, hB⟩ : ∃ B, w.heap.size = B := ⟨_, rfl⟩
  rw [hB] at hbx hv ha
  have HB := Lib.hid hB; have HA2 := Lib.hid hA2; have HK := Lib.hid hk; have HV := Lib.hid hv; have HBX := Lib.hid hbx; have HL := Lib.hid hl48
  clear hB hA2 hk hv hbx hl48 hA
  by_cases s0 : s = 0
  · subst s0
    rw [show mTake M t l 0 r x = (M.store (ndA t l 0) 1, ⟨t, l, 1, r, x⟩) by (unfold mTake; rw [if_pos rfl])]
    unfold handV
    dsimp only
    go_enter Try.func34, Try.ntmps34
    go_wp2_with fail
    rw [HB.out]
    refine (rmay8_any t l 0 r x _).mono ?_
    rw [HOK.out]
    rintro e w1 ⟨rfl, hk1⟩
    have hb1 := HBX.out.no hk1
    have hm1 := HA2.out.keep hk1 (fun f => f) (fun _ _ f => f)
    obtain ⟨⟨m0, m1, m2, m3, m4⟩, ⟨c0, c1, c2, c3, c4⟩, ⟨r0, r1, r2, r3, r4⟩, ⟨f0, f1, f2, f3, f4⟩, ⟨g0, g1, g2, g3, g4⟩, z1, z2⟩ := hb1.facts
    go_wp2_with fail
    have hbd := hb1.no ((Keeps.refl NoS w1).drew)
    have hmd := hm1.keep ((Keeps.refl NoS w1).drew) (fun f => f) (fun _ _ f => f)
    refine wp_region_held_drew (S := (fun w' => (w'.cell? ⟨B, 0, none⟩ = some (.int .i64 2) ∧ w'.cell? ⟨B, 1, none⟩ = some (.int .i64 2) ∧ w'.cell? ⟨B, 2, none⟩ = some (.int .i64 4) ∧ w'.cell? ⟨B, 3, none⟩ = some (.int .i64 0) ∧ w'.cell? ⟨B, 4, none⟩ = some (.int .i64 2)) ∧ (w'.cell? ⟨(B + 1), 0, none⟩ = some (.int .i64 t) ∧ w'.cell? ⟨(B + 1), 1, none⟩ = some (.int .i64 l) ∧ w'.cell? ⟨(B + 1), 2, none⟩ = some (.int .i64 0) ∧ w'.cell? ⟨(B + 1), 3, none⟩ = some (.bool r) ∧ w'.cell? ⟨(B + 1), 4, none⟩ = some (.int .i64 x)))) (by kernel_rfl) (hbd.two) (fun hHeld => ?_)
    refine wpAnyH_take (i := 0) (v := ?_) (by simp only [List.getElem?_toArray, List.getElem?_cons_succ, List.getElem?_cons_zero]; rfl) (by kernel_rfl) (by kernel_rfl) (by kernel_rfl) (by exact fun _ _ _ h => h) (Or.inl ⟨by rfl, ?_⟩) hHeld ?_
    rotate_left
    · intro w hSw; (try dsimp only at hSw); go_simp; (try with_reducible rfl)
    try simp only [Act.put, List.setIfInBounds_toArray, List.set_cons_zero, List.set_cons_succ]
    refine wpAnyH_take (i := 1) (v := ?_) (by simp only [List.getElem?_toArray, List.getElem?_cons_succ, List.getElem?_cons_zero]; rfl) (by kernel_rfl) (by kernel_rfl) (by kernel_rfl) (by exact fun _ _ _ h => h) (Or.inl ⟨by rfl, ?_⟩) hHeld ?_
    rotate_left
    · intro w hSw; (try dsimp only at hSw); go_simp; (try with_reducible rfl)
    try simp only [Act.put, List.setIfInBounds_toArray, List.set_cons_zero, List.set_cons_succ]
    refine wpAnyH_take (i := 2) (v := ?_) (by simp only [List.getElem?_toArray, List.getElem?_cons_succ, List.getElem?_cons_zero]; rfl) (by kernel_rfl) (by kernel_rfl) (by kernel_rfl) (by exact fun _ _ _ h => h) (Or.inl ⟨by rfl, ?_⟩) hHeld ?_
    rotate_left
    · intro w hSw; (try dsimp only at hSw); go_simp; (try with_reducible rfl)
    try simp only [Act.put, List.setIfInBounds_toArray, List.set_cons_zero, List.set_cons_succ]
    refine wpAnyH_take (i := 3) (v := ?_) (by simp only [List.getElem?_toArray, List.getElem?_cons_succ, List.getElem?_cons_zero]; rfl) (by kernel_rfl) (by kernel_rfl) (by kernel_rfl) (by exact fun _ _ _ h => h) (Or.inl ⟨by rfl, ?_⟩) hHeld ?_
    rotate_left
    · intro w hSw; (try dsimp only at hSw); go_simp; (try with_reducible rfl)
    try simp only [Act.put, List.setIfInBounds_toArray, List.set_cons_zero, List.set_cons_succ]
    refine wpAnyH_take (i := 4) (v := ?_) (by simp only [List.getElem?_toArray, List.getElem?_cons_succ, List.getElem?_cons_zero]; rfl) (by kernel_rfl) (by kernel_rfl) (by kernel_rfl) (by exact fun _ _ _ h => h) (Or.inl ⟨by rfl, ?_⟩) hHeld ?_
    rotate_left
    · intro w hSw; (try dsimp only at hSw); go_simp; (try with_reducible rfl)
    try simp only [Act.put, List.setIfInBounds_toArray, List.set_cons_zero, List.set_cons_succ]
    refine wpAnyH_take (i := 6) (v := ?_) (by simp only [List.getElem?_toArray, List.getElem?_cons_succ, List.getElem?_cons_zero]; rfl) (by kernel_rfl) (by kernel_rfl) (by kernel_rfl) (by exact fun _ _ _ h => h) (Or.inl ⟨by rfl, ?_⟩) hHeld ?_
    rotate_left
    · intro w hSw; (try dsimp only at hSw); go_simp; (try with_reducible rfl)
    try simp only [Act.put, List.setIfInBounds_toArray, List.set_cons_zero, List.set_cons_succ]
    refine wpAnyH_take (i := 7) (v := ?_) (by simp only [List.getElem?_toArray, List.getElem?_cons_succ, List.getElem?_cons_zero]; rfl) (by kernel_rfl) (by kernel_rfl) (by kernel_rfl) (by exact fun _ _ _ h => h) (Or.inl ⟨by rfl, ?_⟩) hHeld ?_
    rotate_left
    · intro w hSw; (try dsimp only at hSw); go_simp; (try with_reducible rfl)
    try simp only [Act.put, List.setIfInBounds_toArray, List.set_cons_zero, List.set_cons_succ]
    refine wpAnyH_take (i := 8) (v := ?_) (by simp only [List.getElem?_toArray, List.getElem?_cons_succ, List.getElem?_cons_zero]; rfl) (by kernel_rfl) (by kernel_rfl) (by kernel_rfl) (by exact fun _ _ _ h => h) (Or.inl ⟨by rfl, ?_⟩) hHeld ?_
    rotate_left
    · intro w hSw; (try dsimp only at hSw); go_simp; (try with_reducible rfl)
    try simp only [Act.put, List.setIfInBounds_toArray, List.set_cons_zero, List.set_cons_succ]
    refine wpAnyH_take (i := 9) (v := ?_) (by simp only [List.getElem?_toArray, List.getElem?_cons_succ, List.getElem?_cons_zero]; rfl) (by kernel_rfl) (by kernel_rfl) (by kernel_rfl) (by exact fun _ _ _ h => h) (Or.inl ⟨by rfl, ?_⟩) hHeld ?_
    rotate_left
    · intro w hSw; (try dsimp only at hSw); go_simp; (try with_reducible rfl)
    try simp only [Act.put, List.setIfInBounds_toArray, List.set_cons_zero, List.set_cons_succ]
    refine wpAnyH_take (i := 10) (v := ?_) (by simp only [List.getElem?_toArray, List.getElem?_cons_succ, List.getElem?_cons_zero]; rfl) (by kernel_rfl) (by kernel_rfl) (by kernel_rfl) (by exact fun _ _ _ h => h) (Or.inl ⟨by rfl, ?_⟩) hHeld ?_
    rotate_left
    · intro w hSw; (try dsimp only at hSw); go_simp; (try with_reducible rfl)
    try simp only [Act.put, List.setIfInBounds_toArray, List.set_cons_zero, List.set_cons_succ]
    refine wpAnyH_ready (rs := [5]) (by kernel_rfl) (by simp) ?_
    refine AllReadyH.cons (by simp only [List.getElem?_toArray, List.getElem?_cons_succ, List.getElem?_cons_zero]; rfl) (fun kC hkC => ?_) AllReadyH.nil
    go_simp
    refine (rnode_lit 2 2 4 0 2 t l 0 _ HG0.out _).mono ?_; rintro e w2 ⟨rfl, hk2⟩; have hb2 := hbd.no hk2; have hm2 := hmd.keep hk2 (fun f => f) (fun _ _ f => f)
    (try go_wp2_with fail)
    refine hkC.out _ _ (hb2.two) (fun hHeld => ?_)
    clear hkC kC
    try simp only [Act.put, List.setIfInBounds_toArray, List.set_cons_zero, List.set_cons_succ]
    refine wpAnyH_ready (rs := [11]) (by kernel_rfl) (by simp) ?_
    refine AllReadyH.cons (by simp only [List.getElem?_toArray, List.getElem?_cons_succ, List.getElem?_cons_zero]; rfl) (fun kC hkC => ?_) AllReadyH.nil
    go_simp
    refine (rnode_lit 2 2 4 0 2 t l 1 _ HG1.out _).mono ?_; rintro e w3 ⟨rfl, hk3⟩; have hb3 := hb2.no hk3; have hm3 := hm2.keep hk3 (fun f => f) (fun _ _ f => f)
    (try go_wp2_with fail)
    refine hkC.out _ _ (hb3.two) (fun hHeld => ?_)
    clear hkC kC
    try simp only [Act.put, List.setIfInBounds_toArray, List.set_cons_zero, List.set_cons_succ]
    refine wpAnyH_take (i := 12) (v := ?_) (by simp only [List.getElem?_toArray, List.getElem?_cons_succ, List.getElem?_cons_zero]; rfl) (by kernel_rfl) (by kernel_rfl) (by kernel_rfl) (by exact fun _ _ _ h => h) (Or.inl ⟨by rfl, ?_⟩) hHeld ?_
    rotate_left
    · intro w hSw; (try dsimp only at hSw); go_simp; (try with_reducible rfl)
    try simp only [Act.put, List.setIfInBounds_toArray, List.set_cons_zero, List.set_cons_succ]
    refine wpAnyH_take (i := 13) (v := ?_) (by simp only [List.getElem?_toArray, List.getElem?_cons_succ, List.getElem?_cons_zero]; rfl) (by kernel_rfl) (by kernel_rfl) (by kernel_rfl) (by exact fun _ _ _ h => h) (Or.inl ⟨by rfl, ?_⟩) hHeld ?_
    rotate_left
    · intro w hSw; (try dsimp only at hSw); go_simp; (try with_reducible rfl)
    try simp only [Act.put, List.setIfInBounds_toArray, List.set_cons_zero, List.set_cons_succ]
    refine wpAnyH_done (by kernel_rfl) ?_ _
    go_wp2_with fail
    have hbe := hb3.no ((Keeps.refl NoS w3).drew)
    have hme := hm3.keep ((Keeps.refl NoS w3).drew) (fun f => f) (fun _ _ f => f)
    refine wp_region_held_drew (S := (fun w' => (w'.cell? ⟨B, 0, none⟩ = some (.int .i64 2) ∧ w'.cell? ⟨B, 1, none⟩ = some (.int .i64 2) ∧ w'.cell? ⟨B, 2, none⟩ = some (.int .i64 4) ∧ w'.cell? ⟨B, 3, none⟩ = some (.int .i64 0) ∧ w'.cell? ⟨B, 4, none⟩ = some (.int .i64 2)) ∧ (w'.cell? ⟨(B + 1), 0, none⟩ = some (.int .i64 t) ∧ w'.cell? ⟨(B + 1), 1, none⟩ = some (.int .i64 l) ∧ w'.cell? ⟨(B + 1), 2, none⟩ = some (.int .i64 0) ∧ w'.cell? ⟨(B + 1), 3, none⟩ = some (.bool r) ∧ w'.cell? ⟨(B + 1), 4, none⟩ = some (.int .i64 x)))) (by kernel_rfl) (hbe.two) (fun hHeld => ?_)
    refine wpAnyH_take (i := 0) (v := ?_) (by simp only [List.getElem?_toArray, List.getElem?_cons_succ, List.getElem?_cons_zero]; rfl) (by kernel_rfl) (by kernel_rfl) (by kernel_rfl) (by exact fun _ _ _ h => h) (Or.inl ⟨by rfl, ?_⟩) hHeld ?_
    rotate_left
    · intro w hSw; (try dsimp only at hSw); go_simp; (try with_reducible rfl)
    try simp only [Act.put, List.setIfInBounds_toArray, List.set_cons_zero, List.set_cons_succ]
    refine wpAnyH_take (i := 1) (v := ?_) (by simp only [List.getElem?_toArray, List.getElem?_cons_succ, List.getElem?_cons_zero]; rfl) (by kernel_rfl) (by kernel_rfl) (by kernel_rfl) (by exact fun _ _ _ h => h) (Or.inl ⟨by rfl, ?_⟩) hHeld ?_
    rotate_left
    · intro w hSw; (try dsimp only at hSw); go_simp; (try with_reducible rfl)
    try simp only [Act.put, List.setIfInBounds_toArray, List.set_cons_zero, List.set_cons_succ]
    refine wpAnyH_take (i := 2) (v := ?_) (by simp only [List.getElem?_toArray, List.getElem?_cons_succ, List.getElem?_cons_zero]; rfl) (by kernel_rfl) (by kernel_rfl) (by kernel_rfl) (by exact fun _ _ _ h => h) (Or.inl ⟨by rfl, ?_⟩) hHeld ?_
    rotate_left
    · intro w hSw; (try dsimp only at hSw); go_simp; (try with_reducible rfl)
    try simp only [Act.put, List.setIfInBounds_toArray, List.set_cons_zero, List.set_cons_succ]
    refine wpAnyH_take (i := 4) (v := ?_) (by simp only [List.getElem?_toArray, List.getElem?_cons_succ, List.getElem?_cons_zero]; rfl) (by kernel_rfl) (by kernel_rfl) (by kernel_rfl) (by exact fun _ _ _ h => h) (Or.inl ⟨by rfl, ?_⟩) hHeld ?_
    rotate_left
    · intro w hSw; (try dsimp only at hSw); go_simp; (try with_reducible rfl)
    try simp only [Act.put, List.setIfInBounds_toArray, List.set_cons_zero, List.set_cons_succ]
    refine wpAnyH_take (i := 5) (v := ?_) (by simp only [List.getElem?_toArray, List.getElem?_cons_succ, List.getElem?_cons_zero]; rfl) (by kernel_rfl) (by kernel_rfl) (by kernel_rfl) (by exact fun _ _ _ h => h) (Or.inl ⟨by rfl, ?_⟩) hHeld ?_
    rotate_left
    · intro w hSw; (try dsimp only at hSw); go_simp; (try with_reducible rfl)
    try simp only [Act.put, List.setIfInBounds_toArray, List.set_cons_zero, List.set_cons_succ]
    refine wpAnyH_take (i := 6) (v := ?_) (by simp only [List.getElem?_toArray, List.getElem?_cons_succ, List.getElem?_cons_zero]; rfl) (by kernel_rfl) (by kernel_rfl) (by kernel_rfl) (by exact fun _ _ _ h => h) (Or.inl ⟨by rfl, ?_⟩) hHeld ?_
    rotate_left
    · intro w hSw; (try dsimp only at hSw); go_simp; (try with_reducible rfl)
    try simp only [Act.put, List.setIfInBounds_toArray, List.set_cons_zero, List.set_cons_succ]
    refine wpAnyH_take (i := 7) (v := ?_) (by simp only [List.getElem?_toArray, List.getElem?_cons_succ, List.getElem?_cons_zero]; rfl) (by kernel_rfl) (by kernel_rfl) (by kernel_rfl) (by exact fun _ _ _ h => h) (Or.inl ⟨by rfl, ?_⟩) hHeld ?_
    rotate_left
    · intro w hSw; (try dsimp only at hSw); go_simp; (try with_reducible rfl)
    try simp only [Act.put, List.setIfInBounds_toArray, List.set_cons_zero, List.set_cons_succ]
    refine wpAnyH_take (i := 8) (v := ?_) (by simp only [List.getElem?_toArray, List.getElem?_cons_succ, List.getElem?_cons_zero]; rfl) (by kernel_rfl) (by kernel_rfl) (by kernel_rfl) (by exact fun _ _ _ h => h) (Or.inl ⟨by rfl, ?_⟩) hHeld ?_
    rotate_left
    · intro w hSw; (try dsimp only at hSw); go_simp; (try with_reducible rfl)
    try simp only [Act.put, List.setIfInBounds_toArray, List.set_cons_zero, List.set_cons_succ]
    refine wpAnyH_ready (rs := [3]) (by kernel_rfl) (by simp) ?_
    refine AllReadyH.cons (by simp only [List.getElem?_toArray, List.getElem?_cons_succ, List.getElem?_cons_zero]; rfl) (fun kC hkC => ?_) AllReadyH.nil
    go_simp
    refine (rlock_lit 2 2 4 0 2 l 0 _ HTL.out _).mono ?_; rintro e w5 ⟨rfl, hk5⟩; have hb5 := hbe.no hk5; have hm5 := hme.keep hk5 (fun f => f) (fun _ _ f => f)
    (try go_wp2_with fail)
    refine hkC.out _ _ (hb5.two) (fun hHeld => ?_)
    clear hkC kC
    try simp only [Act.put, List.setIfInBounds_toArray, List.set_cons_zero, List.set_cons_succ]
    refine wpAnyH_ready (rs := [9]) (by kernel_rfl) (by simp) ?_
    refine AllReadyH.cons (by simp only [List.getElem?_toArray, List.getElem?_cons_succ, List.getElem?_cons_zero]; rfl) (fun kC hkC => ?_) AllReadyH.nil
    go_simp
    refine (HID.out _).mono ?_; rintro e w6 ⟨rfl, hk6⟩; have hb6 := hb5.no hk6; have hm6 := hm5.keep hk6 (fun f => f) (fun _ _ f => f)
    (try go_wp2_with fail)
    refine hkC.out _ _ (hb6.two) (fun hHeld => ?_)
    clear hkC kC
    try simp only [Act.put, List.setIfInBounds_toArray, List.set_cons_zero, List.set_cons_succ]
    refine wpAnyH_take (i := 10) (v := ?_) (by simp only [List.getElem?_toArray, List.getElem?_cons_succ, List.getElem?_cons_zero]; rfl) (by kernel_rfl) (by kernel_rfl) (by kernel_rfl) (by exact fun _ _ _ h => h) (Or.inl ⟨by rfl, ?_⟩) hHeld ?_
    rotate_left
    · intro w hSw; (try dsimp only at hSw); go_simp; (try with_reducible rfl)
    try simp only [Act.put, List.setIfInBounds_toArray, List.set_cons_zero, List.set_cons_succ]
    refine wpAnyH_take (i := 11) (v := ?_) (by simp only [List.getElem?_toArray, List.getElem?_cons_succ, List.getElem?_cons_zero]; rfl) (by kernel_rfl) (by kernel_rfl) (by kernel_rfl) (by exact fun _ _ _ h => h) (Or.inl ⟨by rfl, ?_⟩) hHeld ?_
    rotate_left
    · intro w hSw; (try dsimp only at hSw); go_simp; (try with_reducible rfl)
    try simp only [Act.put, List.setIfInBounds_toArray, List.set_cons_zero, List.set_cons_succ]
    refine wpAnyH_done (by kernel_rfl) ?_ _
    have hk06 := (((((((HK.out.trans hk1).trans (Keeps.refl NoS w1).drew).trans hk2).trans hk3).trans (Keeps.refl NoS w3).drew).trans hk5).trans hk6)
    have HB6 := Lib.hid hb6; have HM6 := Lib.hid hm6; have HK6 := Lib.hid hk06
    clear hb6 hm6 hk06 hb5 hm5 hbe hme hb3 hm3 hb2 hm2 hbd hmd hb1 hm1 m0 m1 m2 m3 m4 c0 c1 c2 c3 c4 r0 r1 r2 r3 r4 f0 f1 f2 f3 f4 g0 g1 g2 g3 g4 z1 z2
    obtain ⟨⟨m0, m1, m2, m3, m4⟩, ⟨c0, c1, c2, c3, c4⟩, ⟨r0, r1, r2, r3, r4⟩, ⟨f0, f1, f2, f3, f4⟩, ⟨g0, g1, g2, g3, g4⟩, z1, z2⟩ := HB6.out.facts
    go_wp2_with (go_at_call 68; refine (rstore_ok a v M (ndA t l 0) 1 _ HM6.out HN0.out).mono ?_; rintro e w4 ⟨rfl, hm, hk4⟩; have hb4 := HB6.out.own hk4 ha HV.out; obtain ⟨⟨m0, m1, m2, m3, m4⟩, ⟨c0, c1, c2, c3, c4⟩, ⟨r0, r1, r2, r3, r4⟩, ⟨f0, f1, f2, f3, f4⟩, ⟨g0, g1, g2, g3, g4⟩, z1, z2⟩ := hb4.facts; have hkk : Keeps (own2m a v) w w4 := HK6.out.no.trans hk4; clear hb4)
    refine bodyPost_ret (v := .agg #[.int .i64 t, .int .i64 l, .int .i64 1, .bool r, .int .i64 x]) (by simp [results, Try.results34, go_sem, *]) rfl ⟨rfl, ?_, ?_⟩
    · repeat (first | (with_reducible exact hm) | refine MemT.set (B := B) ?_ ha HV.out _ (by show B ≤ _; dsimp only; omega) _)
    · repeat (first | (with_reducible exact hkk) | refine kset HB.out ?_ _ (by show B ≤ _; dsimp only; omega) _)
  by_cases s1 : s = 1
  · subst s1
    rw [show mTake M t l 1 r x = (M.store (ndA t l 1) 0, ⟨t, l, 2, r, x⟩) by (unfold mTake; rw [if_neg (show ¬ (1 : Int) = 0 by decide), if_pos rfl])]
    unfold handV
    dsimp only
    go_enter Try.func34, Try.ntmps34
    go_wp2_with fail
    rw [HB.out]
    refine (rmay8_any t l 1 r x _).mono ?_
    rw [HOK.out]
    rintro e w1 ⟨rfl, hk1⟩
    have hb1 := HBX.out.no hk1
    have hm1 := HA2.out.keep hk1 (fun f => f) (fun _ _ f => f)
    obtain ⟨⟨m0, m1, m2, m3, m4⟩, ⟨c0, c1, c2, c3, c4⟩, ⟨r0, r1, r2, r3, r4⟩, ⟨f0, f1, f2, f3, f4⟩, ⟨g0, g1, g2, g3, g4⟩, z1, z2⟩ := hb1.facts
    go_wp2_with fail
    have hbd := hb1.no ((Keeps.refl NoS w1).drew)
    have hmd := hm1.keep ((Keeps.refl NoS w1).drew) (fun f => f) (fun _ _ f => f)
    refine wp_region_held_drew (S := (fun w' => (w'.cell? ⟨B, 0, none⟩ = some (.int .i64 2) ∧ w'.cell? ⟨B, 1, none⟩ = some (.int .i64 2) ∧ w'.cell? ⟨B, 2, none⟩ = some (.int .i64 4) ∧ w'.cell? ⟨B, 3, none⟩ = some (.int .i64 0) ∧ w'.cell? ⟨B, 4, none⟩ = some (.int .i64 2)) ∧ (w'.cell? ⟨(B + 1), 0, none⟩ = some (.int .i64 t) ∧ w'.cell? ⟨(B + 1), 1, none⟩ = some (.int .i64 l) ∧ w'.cell? ⟨(B + 1), 2, none⟩ = some (.int .i64 1) ∧ w'.cell? ⟨(B + 1), 3, none⟩ = some (.bool r) ∧ w'.cell? ⟨(B + 1), 4, none⟩ = some (.int .i64 x)))) (by kernel_rfl) (hbd.two) (fun hHeld => ?_)
    refine wpAnyH_take (i := 0) (v := ?_) (by simp only [List.getElem?_toArray, List.getElem?_cons_succ, List.getElem?_cons_zero]; rfl) (by kernel_rfl) (by kernel_rfl) (by kernel_rfl) (by exact fun _ _ _ h => h) (Or.inl ⟨by rfl, ?_⟩) hHeld ?_
    rotate_left
    · intro w hSw; (try dsimp only at hSw); go_simp; (try with_reducible rfl)
    try simp only [Act.put, List.setIfInBounds_toArray, List.set_cons_zero, List.set_cons_succ]
    refine wpAnyH_take (i := 1) (v := ?_) (by simp only [List.getElem?_toArray, List.getElem?_cons_succ, List.getElem?_cons_zero]; rfl) (by kernel_rfl) (by kernel_rfl) (by kernel_rfl) (by exact fun _ _ _ h => h) (Or.inl ⟨by rfl, ?_⟩) hHeld ?_
    rotate_left
    · intro w hSw; (try dsimp only at hSw); go_simp; (try with_reducible rfl)
    try simp only [Act.put, List.setIfInBounds_toArray, List.set_cons_zero, List.set_cons_succ]
    refine wpAnyH_take (i := 2) (v := ?_) (by simp only [List.getElem?_toArray, List.getElem?_cons_succ, List.getElem?_cons_zero]; rfl) (by kernel_rfl) (by kernel_rfl) (by kernel_rfl) (by exact fun _ _ _ h => h) (Or.inl ⟨by rfl, ?_⟩) hHeld ?_
    rotate_left
    · intro w hSw; (try dsimp only at hSw); go_simp; (try with_reducible rfl)
    try simp only [Act.put, List.setIfInBounds_toArray, List.set_cons_zero, List.set_cons_succ]
    refine wpAnyH_take (i := 3) (v := ?_) (by simp only [List.getElem?_toArray, List.getElem?_cons_succ, List.getElem?_cons_zero]; rfl) (by kernel_rfl) (by kernel_rfl) (by kernel_rfl) (by exact fun _ _ _ h => h) (Or.inl ⟨by rfl, ?_⟩) hHeld ?_
    rotate_left
    · intro w hSw; (try dsimp only at hSw); go_simp; (try with_reducible rfl)
    try simp only [Act.put, List.setIfInBounds_toArray, List.set_cons_zero, List.set_cons_succ]
    refine wpAnyH_take (i := 4) (v := ?_) (by simp only [List.getElem?_toArray, List.getElem?_cons_succ, List.getElem?_cons_zero]; rfl) (by kernel_rfl) (by kernel_rfl) (by kernel_rfl) (by exact fun _ _ _ h => h) (Or.inl ⟨by rfl, ?_⟩) hHeld ?_
    rotate_left
    · intro w hSw; (try dsimp only at hSw); go_simp; (try with_reducible rfl)
    try simp only [Act.put, List.setIfInBounds_toArray, List.set_cons_zero, List.set_cons_succ]
    refine wpAnyH_take (i := 6) (v := ?_) (by simp only [List.getElem?_toArray, List.getElem?_cons_succ, List.getElem?_cons_zero]; rfl) (by kernel_rfl) (by kernel_rfl) (by kernel_rfl) (by exact fun _ _ _ h => h) (Or.inl ⟨by rfl, ?_⟩) hHeld ?_
    rotate_left
    · intro w hSw; (try dsimp only at hSw); go_simp; (try with_reducible rfl)
    try simp only [Act.put, List.setIfInBounds_toArray, List.set_cons_zero, List.set_cons_succ]
    refine wpAnyH_take (i := 7) (v := ?_) (by simp only [List.getElem?_toArray, List.getElem?_cons_succ, List.getElem?_cons_zero]; rfl) (by kernel_rfl) (by kernel_rfl) (by kernel_rfl) (by exact fun _ _ _ h => h) (Or.inl ⟨by rfl, ?_⟩) hHeld ?_
    rotate_left
    · intro w hSw; (try dsimp only at hSw); go_simp; (try with_reducible rfl)
    try simp only [Act.put, List.setIfInBounds_toArray, List.set_cons_zero, List.set_cons_succ]
    refine wpAnyH_take (i := 8) (v := ?_) (by simp only [List.getElem?_toArray, List.getElem?_cons_succ, List.getElem?_cons_zero]; rfl) (by kernel_rfl) (by kernel_rfl) (by kernel_rfl) (by exact fun _ _ _ h => h) (Or.inl ⟨by rfl, ?_⟩) hHeld ?_
    rotate_left
    · intro w hSw; (try dsimp only at hSw); go_simp; (try with_reducible rfl)
    try simp only [Act.put, List.setIfInBounds_toArray, List.set_cons_zero, List.set_cons_succ]
    refine wpAnyH_take (i := 9) (v := ?_) (by simp only [List.getElem?_toArray, List.getElem?_cons_succ, List.getElem?_cons_zero]; rfl) (by kernel_rfl) (by kernel_rfl) (by kernel_rfl) (by exact fun _ _ _ h => h) (Or.inl ⟨by rfl, ?_⟩) hHeld ?_
    rotate_left
    · intro w hSw; (try dsimp only at hSw); go_simp; (try with_reducible rfl)
    try simp only [Act.put, List.setIfInBounds_toArray, List.set_cons_zero, List.set_cons_succ]
    refine wpAnyH_take (i := 10) (v := ?_) (by simp only [List.getElem?_toArray, List.getElem?_cons_succ, List.getElem?_cons_zero]; rfl) (by kernel_rfl) (by kernel_rfl) (by kernel_rfl) (by exact fun _ _ _ h => h) (Or.inl ⟨by rfl, ?_⟩) hHeld ?_
    rotate_left
    · intro w hSw; (try dsimp only at hSw); go_simp; (try with_reducible rfl)
    try simp only [Act.put, List.setIfInBounds_toArray, List.set_cons_zero, List.set_cons_succ]
    refine wpAnyH_ready (rs := [5]) (by kernel_rfl) (by simp) ?_
    refine AllReadyH.cons (by simp only [List.getElem?_toArray, List.getElem?_cons_succ, List.getElem?_cons_zero]; rfl) (fun kC hkC => ?_) AllReadyH.nil
    go_simp
    refine (rnode_lit 2 2 4 0 2 t l 0 _ HG0.out _).mono ?_; rintro e w2 ⟨rfl, hk2⟩; have hb2 := hbd.no hk2; have hm2 := hmd.keep hk2 (fun f => f) (fun _ _ f => f)
    (try go_wp2_with fail)
    refine hkC.out _ _ (hb2.two) (fun hHeld => ?_)
    clear hkC kC
    try simp only [Act.put, List.setIfInBounds_toArray, List.set_cons_zero, List.set_cons_succ]
    refine wpAnyH_ready (rs := [11]) (by kernel_rfl) (by simp) ?_
    refine AllReadyH.cons (by simp only [List.getElem?_toArray, List.getElem?_cons_succ, List.getElem?_cons_zero]; rfl) (fun kC hkC => ?_) AllReadyH.nil
    go_simp
    refine (rnode_lit 2 2 4 0 2 t l 1 _ HG1.out _).mono ?_; rintro e w3 ⟨rfl, hk3⟩; have hb3 := hb2.no hk3; have hm3 := hm2.keep hk3 (fun f => f) (fun _ _ f => f)
    (try go_wp2_with fail)
    refine hkC.out _ _ (hb3.two) (fun hHeld => ?_)
    clear hkC kC
    try simp only [Act.put, List.setIfInBounds_toArray, List.set_cons_zero, List.set_cons_succ]
    refine wpAnyH_take (i := 12) (v := ?_) (by simp only [List.getElem?_toArray, List.getElem?_cons_succ, List.getElem?_cons_zero]; rfl) (by kernel_rfl) (by kernel_rfl) (by kernel_rfl) (by exact fun _ _ _ h => h) (Or.inl ⟨by rfl, ?_⟩) hHeld ?_
    rotate_left
    · intro w hSw; (try dsimp only at hSw); go_simp; (try with_reducible rfl)
    try simp only [Act.put, List.setIfInBounds_toArray, List.set_cons_zero, List.set_cons_succ]
    refine wpAnyH_take (i := 13) (v := ?_) (by simp only [List.getElem?_toArray, List.getElem?_cons_succ, List.getElem?_cons_zero]; rfl) (by kernel_rfl) (by kernel_rfl) (by kernel_rfl) (by exact fun _ _ _ h => h) (Or.inl ⟨by rfl, ?_⟩) hHeld ?_
    rotate_left
    · intro w hSw; (try dsimp only at hSw); go_simp; (try with_reducible rfl)
    try simp only [Act.put, List.setIfInBounds_toArray, List.set_cons_zero, List.set_cons_succ]
    refine wpAnyH_done (by kernel_rfl) ?_ _
    go_wp2_with fail
    have hbe := hb3.no ((Keeps.refl NoS w3).drew)
    have hme := hm3.keep ((Keeps.refl NoS w3).drew) (fun f => f) (fun _ _ f => f)
    refine wp_region_held_drew (S := (fun w' => (w'.cell? ⟨B, 0, none⟩ = some (.int .i64 2) ∧ w'.cell? ⟨B, 1, none⟩ = some (.int .i64 2) ∧ w'.cell? ⟨B, 2, none⟩ = some (.int .i64 4) ∧ w'.cell? ⟨B, 3, none⟩ = some (.int .i64 0) ∧ w'.cell? ⟨B, 4, none⟩ = some (.int .i64 2)) ∧ (w'.cell? ⟨(B + 1), 0, none⟩ = some (.int .i64 t) ∧ w'.cell? ⟨(B + 1), 1, none⟩ = some (.int .i64 l) ∧ w'.cell? ⟨(B + 1), 2, none⟩ = some (.int .i64 1) ∧ w'.cell? ⟨(B + 1), 3, none⟩ = some (.bool r) ∧ w'.cell? ⟨(B + 1), 4, none⟩ = some (.int .i64 x)))) (by kernel_rfl) (hbe.two) (fun hHeld => ?_)
    refine wpAnyH_take (i := 0) (v := ?_) (by simp only [List.getElem?_toArray, List.getElem?_cons_succ, List.getElem?_cons_zero]; rfl) (by kernel_rfl) (by kernel_rfl) (by kernel_rfl) (by exact fun _ _ _ h => h) (Or.inl ⟨by rfl, ?_⟩) hHeld ?_
    rotate_left
    · intro w hSw; (try dsimp only at hSw); go_simp; (try with_reducible rfl)
    try simp only [Act.put, List.setIfInBounds_toArray, List.set_cons_zero, List.set_cons_succ]
    refine wpAnyH_take (i := 1) (v := ?_) (by simp only [List.getElem?_toArray, List.getElem?_cons_succ, List.getElem?_cons_zero]; rfl) (by kernel_rfl) (by kernel_rfl) (by kernel_rfl) (by exact fun _ _ _ h => h) (Or.inl ⟨by rfl, ?_⟩) hHeld ?_
    rotate_left
    · intro w hSw; (try dsimp only at hSw); go_simp; (try with_reducible rfl)
    try simp only [Act.put, List.setIfInBounds_toArray, List.set_cons_zero, List.set_cons_succ]
    refine wpAnyH_take (i := 2) (v := ?_) (by simp only [List.getElem?_toArray, List.getElem?_cons_succ, List.getElem?_cons_zero]; rfl) (by kernel_rfl) (by kernel_rfl) (by kernel_rfl) (by exact fun _ _ _ h => h) (Or.inl ⟨by rfl, ?_⟩) hHeld ?_
    rotate_left
    · intro w hSw; (try dsimp only at hSw); go_simp; (try with_reducible rfl)
    try simp only [Act.put, List.setIfInBounds_toArray, List.set_cons_zero, List.set_cons_succ]
    refine wpAnyH_take (i := 4) (v := ?_) (by simp only [List.getElem?_toArray, List.getElem?_cons_succ, List.getElem?_cons_zero]; rfl) (by kernel_rfl) (by kernel_rfl) (by kernel_rfl) (by exact fun _ _ _ h => h) (Or.inl ⟨by rfl, ?_⟩) hHeld ?_
    rotate_left
    · intro w hSw; (try dsimp only at hSw); go_simp; (try with_reducible rfl)
    try simp only [Act.put, List.setIfInBounds_toArray, List.set_cons_zero, List.set_cons_succ]
    refine wpAnyH_take (i := 5) (v := ?_) (by simp only [List.getElem?_toArray, List.getElem?_cons_succ, List.getElem?_cons_zero]; rfl) (by kernel_rfl) (by kernel_rfl) (by kernel_rfl) (by exact fun _ _ _ h => h) (Or.inl ⟨by rfl, ?_⟩) hHeld ?_
    rotate_left
    · intro w hSw; (try dsimp only at hSw); go_simp; (try with_reducible rfl)
    try simp only [Act.put, List.setIfInBounds_toArray, List.set_cons_zero, List.set_cons_succ]
    refine wpAnyH_take (i := 6) (v := ?_) (by simp only [List.getElem?_toArray, List.getElem?_cons_succ, List.getElem?_cons_zero]; rfl) (by kernel_rfl) (by kernel_rfl) (by kernel_rfl) (by exact fun _ _ _ h => h) (Or.inl ⟨by rfl, ?_⟩) hHeld ?_
    rotate_left
    · intro w hSw; (try dsimp only at hSw); go_simp; (try with_reducible rfl)
    try simp only [Act.put, List.setIfInBounds_toArray, List.set_cons_zero, List.set_cons_succ]
    refine wpAnyH_take (i := 7) (v := ?_) (by simp only [List.getElem?_toArray, List.getElem?_cons_succ, List.getElem?_cons_zero]; rfl) (by kernel_rfl) (by kernel_rfl) (by kernel_rfl) (by exact fun _ _ _ h => h) (Or.inl ⟨by rfl, ?_⟩) hHeld ?_
    rotate_left
    · intro w hSw; (try dsimp only at hSw); go_simp; (try with_reducible rfl)
    try simp only [Act.put, List.setIfInBounds_toArray, List.set_cons_zero, List.set_cons_succ]
    refine wpAnyH_take (i := 8) (v := ?_) (by simp only [List.getElem?_toArray, List.getElem?_cons_succ, List.getElem?_cons_zero]; rfl) (by kernel_rfl) (by kernel_rfl) (by kernel_rfl) (by exact fun _ _ _ h => h) (Or.inl ⟨by rfl, ?_⟩) hHeld ?_
    rotate_left
    · intro w hSw; (try dsimp only at hSw); go_simp; (try with_reducible rfl)
    try simp only [Act.put, List.setIfInBounds_toArray, List.set_cons_zero, List.set_cons_succ]
    refine wpAnyH_ready (rs := [3]) (by kernel_rfl) (by simp) ?_
    refine AllReadyH.cons (by simp only [List.getElem?_toArray, List.getElem?_cons_succ, List.getElem?_cons_zero]; rfl) (fun kC hkC => ?_) AllReadyH.nil
    go_simp
    refine (rlock_lit 2 2 4 0 2 l 0 _ HTL.out _).mono ?_; rintro e w5 ⟨rfl, hk5⟩; have hb5 := hbe.no hk5; have hm5 := hme.keep hk5 (fun f => f) (fun _ _ f => f)
    (try go_wp2_with fail)
    refine hkC.out _ _ (hb5.two) (fun hHeld => ?_)
    clear hkC kC
    try simp only [Act.put, List.setIfInBounds_toArray, List.set_cons_zero, List.set_cons_succ]
    refine wpAnyH_ready (rs := [9]) (by kernel_rfl) (by simp) ?_
    refine AllReadyH.cons (by simp only [List.getElem?_toArray, List.getElem?_cons_succ, List.getElem?_cons_zero]; rfl) (fun kC hkC => ?_) AllReadyH.nil
    go_simp
    refine (HID.out _).mono ?_; rintro e w6 ⟨rfl, hk6⟩; have hb6 := hb5.no hk6; have hm6 := hm5.keep hk6 (fun f => f) (fun _ _ f => f)
    (try go_wp2_with fail)
    refine hkC.out _ _ (hb6.two) (fun hHeld => ?_)
    clear hkC kC
    try simp only [Act.put, List.setIfInBounds_toArray, List.set_cons_zero, List.set_cons_succ]
    refine wpAnyH_take (i := 10) (v := ?_) (by simp only [List.getElem?_toArray, List.getElem?_cons_succ, List.getElem?_cons_zero]; rfl) (by kernel_rfl) (by kernel_rfl) (by kernel_rfl) (by exact fun _ _ _ h => h) (Or.inl ⟨by rfl, ?_⟩) hHeld ?_
    rotate_left
    · intro w hSw; (try dsimp only at hSw); go_simp; (try with_reducible rfl)
    try simp only [Act.put, List.setIfInBounds_toArray, List.set_cons_zero, List.set_cons_succ]
    refine wpAnyH_take (i := 11) (v := ?_) (by simp only [List.getElem?_toArray, List.getElem?_cons_succ, List.getElem?_cons_zero]; rfl) (by kernel_rfl) (by kernel_rfl) (by kernel_rfl) (by exact fun _ _ _ h => h) (Or.inl ⟨by rfl, ?_⟩) hHeld ?_
    rotate_left
    · intro w hSw; (try dsimp only at hSw); go_simp; (try with_reducible rfl)
    try simp only [Act.put, List.setIfInBounds_toArray, List.set_cons_zero, List.set_cons_succ]
    refine wpAnyH_done (by kernel_rfl) ?_ _
    have hk06 := (((((((HK.out.trans hk1).trans (Keeps.refl NoS w1).drew).trans hk2).trans hk3).trans (Keeps.refl NoS w3).drew).trans hk5).trans hk6)
    have HB6 := Lib.hid hb6; have HM6 := Lib.hid hm6; have HK6 := Lib.hid hk06
    clear hb6 hm6 hk06 hb5 hm5 hbe hme hb3 hm3 hb2 hm2 hbd hmd hb1 hm1 m0 m1 m2 m3 m4 c0 c1 c2 c3 c4 r0 r1 r2 r3 r4 f0 f1 f2 f3 f4 g0 g1 g2 g3 g4 z1 z2
    obtain ⟨⟨m0, m1, m2, m3, m4⟩, ⟨c0, c1, c2, c3, c4⟩, ⟨r0, r1, r2, r3, r4⟩, ⟨f0, f1, f2, f3, f4⟩, ⟨g0, g1, g2, g3, g4⟩, z1, z2⟩ := HB6.out.facts
    go_wp2_with (go_at_call 68; refine (rstore_ok a v M (ndA t l 1) 0 _ HM6.out HN1.out).mono ?_; rintro e w4 ⟨rfl, hm, hk4⟩; have hb4 := HB6.out.own hk4 ha HV.out; obtain ⟨⟨m0, m1, m2, m3, m4⟩, ⟨c0, c1, c2, c3, c4⟩, ⟨r0, r1, r2, r3, r4⟩, ⟨f0, f1, f2, f3, f4⟩, ⟨g0, g1, g2, g3, g4⟩, z1, z2⟩ := hb4.facts; have hkk : Keeps (own2m a v) w w4 := HK6.out.no.trans hk4; clear hb4)
    refine bodyPost_ret (v := .agg #[.int .i64 t, .int .i64 l, .int .i64 2, .bool r, .int .i64 x]) (by simp [results, Try.results34, go_sem, *]) rfl ⟨rfl, ?_, ?_⟩
    · repeat (first | (with_reducible exact hm) | refine MemT.set (B := B) ?_ ha HV.out _ (by show B ≤ _; dsimp only; omega) _)
    · repeat (first | (with_reducible exact hkk) | refine kset HB.out ?_ _ (by show B ≤ _; dsimp only; omega) _)
  by_cases s2 : s = 2
  · subst s2
    obtain ⟨c, hc⟩ : ∃ c, M.word (tlA l) = c := ⟨_, rfl⟩
    rw [show mTake M t l 2 r x = (M.load (tlA l), ⟨t, l, 3, r, c⟩) by (unfold mTake; rw [if_neg (show ¬ (2 : Int) = 0 by decide), if_neg (show ¬ (2 : Int) = 1 by decide), if_pos rfl, hc])]
    have HC := Lib.hid hc
    clear hc
    unfold handV
    dsimp only
    go_enter Try.func34, Try.ntmps34
    go_wp2_with fail
    rw [HB.out]
    refine (rmay8_any t l 2 r x _).mono ?_
    rw [HOK.out]
    rintro e w1 ⟨rfl, hk1⟩
    have hb1 := HBX.out.no hk1
    have hm1 := HA2.out.keep hk1 (fun f => f) (fun _ _ f => f)
    obtain ⟨⟨m0, m1, m2, m3, m4⟩, ⟨c0, c1, c2, c3, c4⟩, ⟨r0, r1, r2, r3, r4⟩, ⟨f0, f1, f2, f3, f4⟩, ⟨g0, g1, g2, g3, g4⟩, z1, z2⟩ := hb1.facts
    go_wp2_with fail
    have hbd := hb1.no ((Keeps.refl NoS w1).drew)
    have hmd := hm1.keep ((Keeps.refl NoS w1).drew) (fun f => f) (fun _ _ f => f)
    refine wp_region_held_drew (S := (fun w' => (w'.cell? ⟨B, 0, none⟩ = some (.int .i64 2) ∧ w'.cell? ⟨B, 1, none⟩ = some (.int .i64 2) ∧ w'.cell? ⟨B, 2, none⟩ = some (.int .i64 4) ∧ w'.cell? ⟨B, 3, none⟩ = some (.int .i64 0) ∧ w'.cell? ⟨B, 4, none⟩ = some (.int .i64 2)) ∧ (w'.cell? ⟨(B + 1), 0, none⟩ = some (.int .i64 t) ∧ w'.cell? ⟨(B + 1), 1, none⟩ = some (.int .i64 l) ∧ w'.cell? ⟨(B + 1), 2, none⟩ = some (.int .i64 2) ∧ w'.cell? ⟨(B + 1), 3, none⟩ = some (.bool r) ∧ w'.cell? ⟨(B + 1), 4, none⟩ = some (.int .i64 x)))) (by kernel_rfl) (hbd.two) (fun hHeld => ?_)
    refine wpAnyH_take (i := 0) (v := ?_) (by simp only [List.getElem?_toArray, List.getElem?_cons_succ, List.getElem?_cons_zero]; rfl) (by kernel_rfl) (by kernel_rfl) (by kernel_rfl) (by exact fun _ _ _ h => h) (Or.inl ⟨by rfl, ?_⟩) hHeld ?_
    rotate_left
    · intro w hSw; (try dsimp only at hSw); go_simp; (try with_reducible rfl)
    try simp only [Act.put, List.setIfInBounds_toArray, List.set_cons_zero, List.set_cons_succ]
    refine wpAnyH_take (i := 1) (v := ?_) (by simp only [List.getElem?_toArray, List.getElem?_cons_succ, List.getElem?_cons_zero]; rfl) (by kernel_rfl) (by kernel_rfl) (by kernel_rfl) (by exact fun _ _ _ h => h) (Or.inl ⟨by rfl, ?_⟩) hHeld ?_
    rotate_left
    · intro w hSw; (try dsimp only at hSw); go_simp; (try with_reducible rfl)
    try simp only [Act.put, List.setIfInBounds_toArray, List.set_cons_zero, List.set_cons_succ]
    refine wpAnyH_take (i := 2) (v := ?_) (by simp only [List.getElem?_toArray, List.getElem?_cons_succ, List.getElem?_cons_zero]; rfl) (by kernel_rfl) (by kernel_rfl) (by kernel_rfl) (by exact fun _ _ _ h => h) (Or.inl ⟨by rfl, ?_⟩) hHeld ?_
    rotate_left
    · intro w hSw; (try dsimp only at hSw); go_simp; (try with_reducible rfl)
    try simp only [Act.put, List.setIfInBounds_toArray, List.set_cons_zero, List.set_cons_succ]
    refine wpAnyH_take (i := 3) (v := ?_) (by simp only [List.getElem?_toArray, List.getElem?_cons_succ, List.getElem?_cons_zero]; rfl) (by kernel_rfl) (by kernel_rfl) (by kernel_rfl) (by exact fun _ _ _ h => h) (Or.inl ⟨by rfl, ?_⟩) hHeld ?_
    rotate_left
    · intro w hSw; (try dsimp only at hSw); go_simp; (try with_reducible rfl)
    try simp only [Act.put, List.setIfInBounds_toArray, List.set_cons_zero, List.set_cons_succ]
    refine wpAnyH_take (i := 4) (v := ?_) (by simp only [List.getElem?_toArray, List.getElem?_cons_succ, List.getElem?_cons_zero]; rfl) (by kernel_rfl) (by kernel_rfl) (by kernel_rfl) (by exact fun _ _ _ h => h) (Or.inl ⟨by rfl, ?_⟩) hHeld ?_
    rotate_left
    · intro w hSw; (try dsimp only at hSw); go_simp; (try with_reducible rfl)
    try simp only [Act.put, List.setIfInBounds_toArray, List.set_cons_zero, List.set_cons_succ]
    refine wpAnyH_take (i := 6) (v := ?_) (by simp only [List.getElem?_toArray, List.getElem?_cons_succ, List.getElem?_cons_zero]; rfl) (by kernel_rfl) (by kernel_rfl) (by kernel_rfl) (by exact fun _ _ _ h => h) (Or.inl ⟨by rfl, ?_⟩) hHeld ?_
    rotate_left
    · intro w hSw; (try dsimp only at hSw); go_simp; (try with_reducible rfl)
    try simp only [Act.put, List.setIfInBounds_toArray, List.set_cons_zero, List.set_cons_succ]
    refine wpAnyH_take (i := 7) (v := ?_) (by simp only [List.getElem?_toArray, List.getElem?_cons_succ, List.getElem?_cons_zero]; rfl) (by kernel_rfl) (by kernel_rfl) (by kernel_rfl) (by exact fun _ _ _ h => h) (Or.inl ⟨by rfl, ?_⟩) hHeld ?_
    rotate_left
    · intro w hSw; (try dsimp only at hSw); go_simp; (try with_reducible rfl)
    try simp only [Act.put, List.setIfInBounds_toArray, List.set_cons_zero, List.set_cons_succ]
    refine wpAnyH_take (i := 8) (v := ?_) (by simp only [List.getElem?_toArray, List.getElem?_cons_succ, List.getElem?_cons_zero]; rfl) (by kernel_rfl) (by kernel_rfl) (by kernel_rfl) (by exact fun _ _ _ h => h) (Or.inl ⟨by rfl, ?_⟩) hHeld ?_
    rotate_left
    · intro w hSw; (try dsimp only at hSw); go_simp; (try with_reducible rfl)
    try simp only [Act.put, List.setIfInBounds_toArray, List.set_cons_zero, List.set_cons_succ]
    refine wpAnyH_take (i := 9) (v := ?_) (by simp only [List.getElem?_toArray, List.getElem?_cons_succ, List.getElem?_cons_zero]; rfl) (by kernel_rfl) (by kernel_rfl) (by kernel_rfl) (by exact fun _ _ _ h => h) (Or.inl ⟨by rfl, ?_⟩) hHeld ?_
    rotate_left
    · intro w hSw; (try dsimp only at hSw); go_simp; (try with_reducible rfl)
    try simp only [Act.put, List.setIfInBounds_toArray, List.set_cons_zero, List.set_cons_succ]
    refine wpAnyH_take (i := 10) (v := ?_) (by simp only [List.getElem?_toArray, List.getElem?_cons_succ, List.getElem?_cons_zero]; rfl) (by kernel_rfl) (by kernel_rfl) (by kernel_rfl) (by exact fun _ _ _ h => h) (Or.inl ⟨by rfl, ?_⟩) hHeld ?_
    rotate_left
    · intro w hSw; (try dsimp only at hSw); go_simp; (try with_reducible rfl)
    try simp only [Act.put, List.setIfInBounds_toArray, List.set_cons_zero, List.set_cons_succ]
    refine wpAnyH_ready (rs := [5]) (by kernel_rfl) (by simp) ?_
    refine AllReadyH.cons (by simp only [List.getElem?_toArray, List.getElem?_cons_succ, List.getElem?_cons_zero]; rfl) (fun kC hkC => ?_) AllReadyH.nil
    go_simp
    refine (rnode_lit 2 2 4 0 2 t l 0 _ HG0.out _).mono ?_; rintro e w2 ⟨rfl, hk2⟩; have hb2 := hbd.no hk2; have hm2 := hmd.keep hk2 (fun f => f) (fun _ _ f => f)
    (try go_wp2_with fail)
    refine hkC.out _ _ (hb2.two) (fun hHeld => ?_)
    clear hkC kC
    try simp only [Act.put, List.setIfInBounds_toArray, List.set_cons_zero, List.set_cons_succ]
    refine wpAnyH_ready (rs := [11]) (by kernel_rfl) (by simp) ?_
    refine AllReadyH.cons (by simp only [List.getElem?_toArray, List.getElem?_cons_succ, List.getElem?_cons_zero]; rfl) (fun kC hkC => ?_) AllReadyH.nil
    go_simp
    refine (rnode_lit 2 2 4 0 2 t l 1 _ HG1.out _).mono ?_; rintro e w3 ⟨rfl, hk3⟩; have hb3 := hb2.no hk3; have hm3 := hm2.keep hk3 (fun f => f) (fun _ _ f => f)
    (try go_wp2_with fail)
    refine hkC.out _ _ (hb3.two) (fun hHeld => ?_)
    clear hkC kC
    try simp only [Act.put, List.setIfInBounds_toArray, List.set_cons_zero, List.set_cons_succ]
    refine wpAnyH_take (i := 12) (v := ?_) (by simp only [List.getElem?_toArray, List.getElem?_cons_succ, List.getElem?_cons_zero]; rfl) (by kernel_rfl) (by kernel_rfl) (by kernel_rfl) (by exact fun _ _ _ h => h) (Or.inl ⟨by rfl, ?_⟩) hHeld ?_
    rotate_left
    · intro w hSw; (try dsimp only at hSw); go_simp; (try with_reducible rfl)
    try simp only [Act.put, List.setIfInBounds_toArray, List.set_cons_zero, List.set_cons_succ]
    refine wpAnyH_take (i := 13) (v := ?_) (by simp only [List.getElem?_toArray, List.getElem?_cons_succ, List.getElem?_cons_zero]; rfl) (by kernel_rfl) (by kernel_rfl) (by kernel_rfl) (by exact fun _ _ _ h => h) (Or.inl ⟨by rfl, ?_⟩) hHeld ?_
    rotate_left
    · intro w hSw; (try dsimp only at hSw); go_simp; (try with_reducible rfl)
    try simp only [Act.put, List.setIfInBounds_toArray, List.set_cons_zero, List.set_cons_succ]
    refine wpAnyH_done (by kernel_rfl) ?_ _
    go_wp2_with fail
    have hbe := hb3.no ((Keeps.refl NoS w3).drew)
    have hme := hm3.keep ((Keeps.refl NoS w3).drew) (fun f => f) (fun _ _ f => f)
    refine wp_region_held_drew (S := (fun w' => (w'.cell? ⟨B, 0, none⟩ = some (.int .i64 2) ∧ w'.cell? ⟨B, 1, none⟩ = some (.int .i64 2) ∧ w'.cell? ⟨B, 2, none⟩ = some (.int .i64 4) ∧ w'.cell? ⟨B, 3, none⟩ = some (.int .i64 0) ∧ w'.cell? ⟨B, 4, none⟩ = some (.int .i64 2)) ∧ (w'.cell? ⟨(B + 1), 0, none⟩ = some (.int .i64 t) ∧ w'.cell? ⟨(B + 1), 1, none⟩ = some (.int .i64 l) ∧ w'.cell? ⟨(B + 1), 2, none⟩ = some (.int .i64 2) ∧ w'.cell? ⟨(B + 1), 3, none⟩ = some (.bool r) ∧ w'.cell? ⟨(B + 1), 4, none⟩ = some (.int .i64 x)))) (by kernel_rfl) (hbe.two) (fun hHeld => ?_)
    refine wpAnyH_take (i := 0) (v := ?_) (by simp only [List.getElem?_toArray, List.getElem?_cons_succ, List.getElem?_cons_zero]; rfl) (by kernel_rfl) (by kernel_rfl) (by kernel_rfl) (by exact fun _ _ _ h => h) (Or.inl ⟨by rfl, ?_⟩) hHeld ?_
    rotate_left
    · intro w hSw; (try dsimp only at hSw); go_simp; (try with_reducible rfl)
    try simp only [Act.put, List.setIfInBounds_toArray, List.set_cons_zero, List.set_cons_succ]
    refine wpAnyH_take (i := 1) (v := ?_) (by simp only [List.getElem?_toArray, List.getElem?_cons_succ, List.getElem?_cons_zero]; rfl) (by kernel_rfl) (by kernel_rfl) (by kernel_rfl) (by exact fun _ _ _ h => h) (Or.inl ⟨by rfl, ?_⟩) hHeld ?_
    rotate_left
    · intro w hSw; (try dsimp only at hSw); go_simp; (try with_reducible rfl)
    try simp only [Act.put, List.setIfInBounds_toArray, List.set_cons_zero, List.set_cons_succ]
    refine wpAnyH_take (i := 2) (v := ?_) (by simp only [List.getElem?_toArray, List.getElem?_cons_succ, List.getElem?_cons_zero]; rfl) (by kernel_rfl) (by kernel_rfl) (by kernel_rfl) (by exact fun _ _ _ h => h) (Or.inl ⟨by rfl, ?_⟩) hHeld ?_
    rotate_left
    · intro w hSw; (try dsimp only at hSw); go_simp; (try with_reducible rfl)
    try simp only [Act.put, List.setIfInBounds_toArray, List.set_cons_zero, List.set_cons_succ]
    refine wpAnyH_take (i := 4) (v := ?_) (by simp only [List.getElem?_toArray, List.getElem?_cons_succ, List.getElem?_cons_zero]; rfl) (by kernel_rfl) (by kernel_rfl) (by kernel_rfl) (by exact fun _ _ _ h => h) (Or.inl ⟨by rfl, ?_⟩) hHeld ?_
    rotate_left
    · intro w hSw; (try dsimp only at hSw); go_simp; (try with_reducible rfl)
    try simp only [Act.put, List.setIfInBounds_toArray, List.set_cons_zero, List.set_cons_succ]
    refine wpAnyH_take (i := 5) (v := ?_) (by simp only [List.getElem?_toArray, List.getElem?_cons_succ, List.getElem?_cons_zero]; rfl) (by kernel_rfl) (by kernel_rfl) (by kernel_rfl) (by exact fun _ _ _ h => h) (Or.inl ⟨by rfl, ?_⟩) hHeld ?_
    rotate_left
    · intro w hSw; (try dsimp only at hSw); go_simp; (try with_reducible rfl)
    try simp only [Act.put, List.setIfInBounds_toArray, List.set_cons_zero, List.set_cons_succ]
    refine wpAnyH_take (i := 6) (v := ?_) (by simp only [List.getElem?_toArray, List.getElem?_cons_succ, List.getElem?_cons_zero]; rfl) (by kernel_rfl) (by kernel_rfl) (by kernel_rfl) (by exact fun _ _ _ h => h) (Or.inl ⟨by rfl, ?_⟩) hHeld ?_
    rotate_left
    · intro w hSw; (try dsimp only at hSw); go_simp; (try with_reducible rfl)
    try simp only [Act.put, List.setIfInBounds_toArray, List.set_cons_zero, List.set_cons_succ]
    refine wpAnyH_take (i := 7) (v := ?_) (by simp only [List.getElem?_toArray, List.getElem?_cons_succ, List.getElem?_cons_zero]; rfl) (by kernel_rfl) (by kernel_rfl) (by kernel_rfl) (by exact fun _ _ _ h => h) (Or.inl ⟨by rfl, ?_⟩) hHeld ?_
    rotate_left
    · intro w hSw; (try dsimp only at hSw); go_simp; (try with_reducible rfl)
    try simp only [Act.put, List.setIfInBounds_toArray, List.set_cons_zero, List.set_cons_succ]
    refine wpAnyH_take (i := 8) (v := ?_) (by simp only [List.getElem?_toArray, List.getElem?_cons_succ, List.getElem?_cons_zero]; rfl) (by kernel_rfl) (by kernel_rfl) (by kernel_rfl) (by exact fun _ _ _ h => h) (Or.inl ⟨by rfl, ?_⟩) hHeld ?_
    rotate_left
    · intro w hSw; (try dsimp only at hSw); go_simp; (try with_reducible rfl)
    try simp only [Act.put, List.setIfInBounds_toArray, List.set_cons_zero, List.set_cons_succ]
    refine wpAnyH_ready (rs := [3]) (by kernel_rfl) (by simp) ?_
    refine AllReadyH.cons (by simp only [List.getElem?_toArray, List.getElem?_cons_succ, List.getElem?_cons_zero]; rfl) (fun kC hkC => ?_) AllReadyH.nil
    go_simp
    refine (rlock_lit 2 2 4 0 2 l 0 _ HTL.out _).mono ?_; rintro e w5 ⟨rfl, hk5⟩; have hb5 := hbe.no hk5; have hm5 := hme.keep hk5 (fun f => f) (fun _ _ f => f)
    (try go_wp2_with fail)
    refine hkC.out _ _ (hb5.two) (fun hHeld => ?_)
    clear hkC kC
    try simp only [Act.put, List.setIfInBounds_toArray, List.set_cons_zero, List.set_cons_succ]
    refine wpAnyH_ready (rs := [9]) (by kernel_rfl) (by simp) ?_
    refine AllReadyH.cons (by simp only [List.getElem?_toArray, List.getElem?_cons_succ, List.getElem?_cons_zero]; rfl) (fun kC hkC => ?_) AllReadyH.nil
    go_simp
    refine (HID.out _).mono ?_; rintro e w6 ⟨rfl, hk6⟩; have hb6 := hb5.no hk6; have hm6 := hm5.keep hk6 (fun f => f) (fun _ _ f => f)
    (try go_wp2_with fail)
    refine hkC.out _ _ (hb6.two) (fun hHeld => ?_)
    clear hkC kC
    try simp only [Act.put, List.setIfInBounds_toArray, List.set_cons_zero, List.set_cons_succ]
    refine wpAnyH_take (i := 10) (v := ?_) (by simp only [List.getElem?_toArray, List.getElem?_cons_succ, List.getElem?_cons_zero]; rfl) (by kernel_rfl) (by kernel_rfl) (by kernel_rfl) (by exact fun _ _ _ h => h) (Or.inl ⟨by rfl, ?_⟩) hHeld ?_
    rotate_left
    · intro w hSw; (try dsimp only at hSw); go_simp; (try with_reducible rfl)
    try simp only [Act.put, List.setIfInBounds_toArray, List.set_cons_zero, List.set_cons_succ]
    refine wpAnyH_take (i := 11) (v := ?_) (by simp only [List.getElem?_toArray, List.getElem?_cons_succ, List.getElem?_cons_zero]; rfl) (by kernel_rfl) (by kernel_rfl) (by kernel_rfl) (by exact fun _ _ _ h => h) (Or.inl ⟨by rfl, ?_⟩) hHeld ?_
    rotate_left
    · intro w hSw; (try dsimp only at hSw); go_simp; (try with_reducible rfl)
    try simp only [Act.put, List.setIfInBounds_toArray, List.set_cons_zero, List.set_cons_succ]
    refine wpAnyH_done (by kernel_rfl) ?_ _
    have hk06 := (((((((HK.out.trans hk1).trans (Keeps.refl NoS w1).drew).trans hk2).trans hk3).trans (Keeps.refl NoS w3).drew).trans hk5).trans hk6)
    have HB6 := Lib.hid hb6; have HM6 := Lib.hid hm6; have HK6 := Lib.hid hk06
    clear hb6 hm6 hk06 hb5 hm5 hbe hme hb3 hm3 hb2 hm2 hbd hmd hb1 hm1 m0 m1 m2 m3 m4 c0 c1 c2 c3 c4 r0 r1 r2 r3 r4 f0 f1 f2 f3 f4 g0 g1 g2 g3 g4 z1 z2
    obtain ⟨⟨m0, m1, m2, m3, m4⟩, ⟨c0, c1, c2, c3, c4⟩, ⟨r0, r1, r2, r3, r4⟩, ⟨f0, f1, f2, f3, f4⟩, ⟨g0, g1, g2, g3, g4⟩, z1, z2⟩ := HB6.out.facts
    go_wp2_with (go_at_call 65; refine (rload_ok a v M (tlA l) _ HM6.out HNT.out).mono ?_; rw [HC.out]; rintro e w4 ⟨rfl, hm, hk4'⟩; have hk4 : Keeps (own2m a v) w6 w4 := hk4'.mono (fun _ e => .inl e); have hb4 := HB6.out.own hk4 ha HV.out; obtain ⟨⟨m0, m1, m2, m3, m4⟩, ⟨c0, c1, c2, c3, c4⟩, ⟨r0, r1, r2, r3, r4⟩, ⟨f0, f1, f2, f3, f4⟩, ⟨g0, g1, g2, g3, g4⟩, z1, z2⟩ := hb4.facts; have hkk : Keeps (own2m a v) w w4 := HK6.out.no.trans hk4; clear hb4)
    refine bodyPost_ret (v := .agg #[.int .i64 t, .int .i64 l, .int .i64 3, .bool r, .int .i64 c]) (by simp [results, Try.results34, go_sem, *]) rfl ⟨rfl, ?_, ?_⟩
    · repeat (first | (with_reducible exact hm) | refine MemT.set (B := B) ?_ ha HV.out _ (by show B ≤ _; dsimp only; omega) _)
    · repeat (first | (with_reducible exact hkk) | refine kset HB.out ?_ _ (by show B ≤ _; dsimp only; omega) _)
  by_cases s3 : s = 3
  · subst s3
    obtain ⟨c, hc⟩ : ∃ c, M.word (tlA l) = c := ⟨_, rfl⟩
    have HC := Lib.hid hc
    by_cases hcx : c = x
    · have hq : (M.word (tlA l) == x) = true := by rw [hc]; simpa using hcx
      have HQ := Lib.hid hq
      by_cases hx0 : x = 0
      · rw [show mTake M t l 3 r x = (M.swap (tlA l) x y, ⟨t, l, 9, r, x⟩) by (unfold mTake; rw [if_neg (show ¬ (3 : Int) = 0 by decide), if_neg (show ¬ (3 : Int) = 1 by decide), if_neg (show ¬ (3 : Int) = 2 by decide), if_pos rfl, hc, if_pos hcx, if_pos hx0, HYD.out])]
        have hx1 : (x == 0) = true := by simpa using hx0
        clear hx0 hq hc hcx
        unfold handV
        dsimp only
        go_enter Try.func34, Try.ntmps34
        go_wp2_with fail
        rw [HB.out]
        refine (rmay8_any t l 3 r x _).mono ?_
        rw [HOK.out]
        rintro e w1 ⟨rfl, hk1⟩
        have hb1 := HBX.out.no hk1
        have hm1 := HA2.out.keep hk1 (fun f => f) (fun _ _ f => f)
        obtain ⟨⟨m0, m1, m2, m3, m4⟩, ⟨c0, c1, c2, c3, c4⟩, ⟨r0, r1, r2, r3, r4⟩, ⟨f0, f1, f2, f3, f4⟩, ⟨g0, g1, g2, g3, g4⟩, z1, z2⟩ := hb1.facts
        go_wp2_with fail
        have hbd := hb1.no ((Keeps.refl NoS w1).drew)
        have hmd := hm1.keep ((Keeps.refl NoS w1).drew) (fun f => f) (fun _ _ f => f)
        refine wp_region_held_drew (S := (fun w' => (w'.cell? ⟨B, 0, none⟩ = some (.int .i64 2) ∧ w'.cell? ⟨B, 1, none⟩ = some (.int .i64 2) ∧ w'.cell? ⟨B, 2, none⟩ = some (.int .i64 4) ∧ w'.cell? ⟨B, 3, none⟩ = some (.int .i64 0) ∧ w'.cell? ⟨B, 4, none⟩ = some (.int .i64 2)) ∧ (w'.cell? ⟨(B + 1), 0, none⟩ = some (.int .i64 t) ∧ w'.cell? ⟨(B + 1), 1, none⟩ = some (.int .i64 l) ∧ w'.cell? ⟨(B + 1), 2, none⟩ = some (.int .i64 3) ∧ w'.cell? ⟨(B + 1), 3, none⟩ = some (.bool r) ∧ w'.cell? ⟨(B + 1), 4, none⟩ = some (.int .i64 x)))) (by kernel_rfl) (hbd.two) (fun hHeld => ?_)
        refine wpAnyH_take (i := 0) (v := ?_) (by simp only [List.getElem?_toArray, List.getElem?_cons_succ, List.getElem?_cons_zero]; rfl) (by kernel_rfl) (by kernel_rfl) (by kernel_rfl) (by exact fun _ _ _ h => h) (Or.inl ⟨by rfl, ?_⟩) hHeld ?_
        rotate_left
        · intro w hSw; (try dsimp only at hSw); go_simp; (try with_reducible rfl)
        try simp only [Act.put, List.setIfInBounds_toArray, List.set_cons_zero, List.set_cons_succ]
        refine wpAnyH_take (i := 1) (v := ?_) (by simp only [List.getElem?_toArray, List.getElem?_cons_succ, List.getElem?_cons_zero]; rfl) (by kernel_rfl) (by kernel_rfl) (by kernel_rfl) (by exact fun _ _ _ h => h) (Or.inl ⟨by rfl, ?_⟩) hHeld ?_
        rotate_left
        · intro w hSw; (try dsimp only at hSw); go_simp; (try with_reducible rfl)
        try simp only [Act.put, List.setIfInBounds_toArray, List.set_cons_zero, List.set_cons_succ]
        refine wpAnyH_take (i := 2) (v := ?_) (by simp only [List.getElem?_toArray, List.getElem?_cons_succ, List.getElem?_cons_zero]; rfl) (by kernel_rfl) (by kernel_rfl) (by kernel_rfl) (by exact fun _ _ _ h => h) (Or.inl ⟨by rfl, ?_⟩) hHeld ?_
        rotate_left
        · intro w hSw; (try dsimp only at hSw); go_simp; (try with_reducible rfl)
        try simp only [Act.put, List.setIfInBounds_toArray, List.set_cons_zero, List.set_cons_succ]
        refine wpAnyH_take (i := 3) (v := ?_) (by simp only [List.getElem?_toArray, List.getElem?_cons_succ, List.getElem?_cons_zero]; rfl) (by kernel_rfl) (by kernel_rfl) (by kernel_rfl) (by exact fun _ _ _ h => h) (Or.inl ⟨by rfl, ?_⟩) hHeld ?_
        rotate_left
        · intro w hSw; (try dsimp only at hSw); go_simp; (try with_reducible rfl)
        try simp only [Act.put, List.setIfInBounds_toArray, List.set_cons_zero, List.set_cons_succ]
        refine wpAnyH_take (i := 4) (v := ?_) (by simp only [List.getElem?_toArray, List.getElem?_cons_succ, List.getElem?_cons_zero]; rfl) (by kernel_rfl) (by kernel_rfl) (by kernel_rfl) (by exact fun _ _ _ h => h) (Or.inl ⟨by rfl, ?_⟩) hHeld ?_
        rotate_left
        · intro w hSw; (try dsimp only at hSw); go_simp; (try with_reducible rfl)
        try simp only [Act.put, List.setIfInBounds_toArray, List.set_cons_zero, List.set_cons_succ]
        refine wpAnyH_take (i := 6) (v := ?_) (by simp only [List.getElem?_toArray, List.getElem?_cons_succ, List.getElem?_cons_zero]; rfl) (by kernel_rfl) (by kernel_rfl) (by kernel_rfl) (by exact fun _ _ _ h => h) (Or.inl ⟨by rfl, ?_⟩) hHeld ?_
        rotate_left
        · intro w hSw; (try dsimp only at hSw); go_simp; (try with_reducible rfl)
        try simp only [Act.put, List.setIfInBounds_toArray, List.set_cons_zero, List.set_cons_succ]
        refine wpAnyH_take (i := 7) (v := ?_) (by simp only [List.getElem?_toArray, List.getElem?_cons_succ, List.getElem?_cons_zero]; rfl) (by kernel_rfl) (by kernel_rfl) (by kernel_rfl) (by exact fun _ _ _ h => h) (Or.inl ⟨by rfl, ?_⟩) hHeld ?_
        rotate_left
        · intro w hSw; (try dsimp only at hSw); go_simp; (try with_reducible rfl)
        try simp only [Act.put, List.setIfInBounds_toArray, List.set_cons_zero, List.set_cons_succ]
        refine wpAnyH_take (i := 8) (v := ?_) (by simp only [List.getElem?_toArray, List.getElem?_cons_succ, List.getElem?_cons_zero]; rfl) (by kernel_rfl) (by kernel_rfl) (by kernel_rfl) (by exact fun _ _ _ h => h) (Or.inl ⟨by rfl, ?_⟩) hHeld ?_
        rotate_left
        · intro w hSw; (try dsimp only at hSw); go_simp; (try with_reducible rfl)
        try simp only [Act.put, List.setIfInBounds_toArray, List.set_cons_zero, List.set_cons_succ]
        refine wpAnyH_take (i := 9) (v := ?_) (by simp only [List.getElem?_toArray, List.getElem?_cons_succ, List.getElem?_cons_zero]; rfl) (by kernel_rfl) (by kernel_rfl) (by kernel_rfl) (by exact fun _ _ _ h => h) (Or.inl ⟨by rfl, ?_⟩) hHeld ?_
        rotate_left
        · intro w hSw; (try dsimp only at hSw); go_simp; (try with_reducible rfl)
        try simp only [Act.put, List.setIfInBounds_toArray, List.set_cons_zero, List.set_cons_succ]
        refine wpAnyH_take (i := 10) (v := ?_) (by simp only [List.getElem?_toArray, List.getElem?_cons_succ, List.getElem?_cons_zero]; rfl) (by kernel_rfl) (by kernel_rfl) (by kernel_rfl) (by exact fun _ _ _ h => h) (Or.inl ⟨by rfl, ?_⟩) hHeld ?_
        rotate_left
        · intro w hSw; (try dsimp only at hSw); go_simp; (try with_reducible rfl)
        try simp only [Act.put, List.setIfInBounds_toArray, List.set_cons_zero, List.set_cons_succ]
        refine wpAnyH_ready (rs := [5]) (by kernel_rfl) (by simp) ?_
        refine AllReadyH.cons (by simp only [List.getElem?_toArray, List.getElem?_cons_succ, List.getElem?_cons_zero]; rfl) (fun kC hkC => ?_) AllReadyH.nil
        go_simp
        refine (rnode_lit 2 2 4 0 2 t l 0 _ HG0.out _).mono ?_; rintro e w2 ⟨rfl, hk2⟩; have hb2 := hbd.no hk2; have hm2 := hmd.keep hk2 (fun f => f) (fun _ _ f => f)
        (try go_wp2_with fail)
        refine hkC.out _ _ (hb2.two) (fun hHeld => ?_)
        clear hkC kC
        try simp only [Act.put, List.setIfInBounds_toArray, List.set_cons_zero, List.set_cons_succ]
        refine wpAnyH_ready (rs := [11]) (by kernel_rfl) (by simp) ?_
        refine AllReadyH.cons (by simp only [List.getElem?_toArray, List.getElem?_cons_succ, List.getElem?_cons_zero]; rfl) (fun kC hkC => ?_) AllReadyH.nil
        go_simp
        refine (rnode_lit 2 2 4 0 2 t l 1 _ HG1.out _).mono ?_; rintro e w3 ⟨rfl, hk3⟩; have hb3 := hb2.no hk3; have hm3 := hm2.keep hk3 (fun f => f) (fun _ _ f => f)
        (try go_wp2_with fail)
        refine hkC.out _ _ (hb3.two) (fun hHeld => ?_)
        clear hkC kC
        try simp only [Act.put, List.setIfInBounds_toArray, List.set_cons_zero, List.set_cons_succ]
        refine wpAnyH_take (i := 12) (v := ?_) (by simp only [List.getElem?_toArray, List.getElem?_cons_succ, List.getElem?_cons_zero]; rfl) (by kernel_rfl) (by kernel_rfl) (by kernel_rfl) (by exact fun _ _ _ h => h) (Or.inl ⟨by rfl, ?_⟩) hHeld ?_
        rotate_left
        · intro w hSw; (try dsimp only at hSw); go_simp; (try with_reducible rfl)
        try simp only [Act.put, List.setIfInBounds_toArray, List.set_cons_zero, List.set_cons_succ]
        refine wpAnyH_take (i := 13) (v := ?_) (by simp only [List.getElem?_toArray, List.getElem?_cons_succ, List.getElem?_cons_zero]; rfl) (by kernel_rfl) (by kernel_rfl) (by kernel_rfl) (by exact fun _ _ _ h => h) (Or.inl ⟨by rfl, ?_⟩) hHeld ?_
        rotate_left
        · intro w hSw; (try dsimp only at hSw); go_simp; (try with_reducible rfl)
        try simp only [Act.put, List.setIfInBounds_toArray, List.set_cons_zero, List.set_cons_succ]
        refine wpAnyH_done (by kernel_rfl) ?_ _
        go_wp2_with fail
        have hbe := hb3.no ((Keeps.refl NoS w3).drew)
        have hme := hm3.keep ((Keeps.refl NoS w3).drew) (fun f => f) (fun _ _ f => f)
        refine wp_region_held_drew (S := (fun w' => (w'.cell? ⟨B, 0, none⟩ = some (.int .i64 2) ∧ w'.cell? ⟨B, 1, none⟩ = some (.int .i64 2) ∧ w'.cell? ⟨B, 2, none⟩ = some (.int .i64 4) ∧ w'.cell? ⟨B, 3, none⟩ = some (.int .i64 0) ∧ w'.cell? ⟨B, 4, none⟩ = some (.int .i64 2)) ∧ (w'.cell? ⟨(B + 1), 0, none⟩ = some (.int .i64 t) ∧ w'.cell? ⟨(B + 1), 1, none⟩ = some (.int .i64 l) ∧ w'.cell? ⟨(B + 1), 2, none⟩ = some (.int .i64 3) ∧ w'.cell? ⟨(B + 1), 3, none⟩ = some (.bool r) ∧ w'.cell? ⟨(B + 1), 4, none⟩ = some (.int .i64 x)))) (by kernel_rfl) (hbe.two) (fun hHeld => ?_)
        refine wpAnyH_take (i := 0) (v := ?_) (by simp only [List.getElem?_toArray, List.getElem?_cons_succ, List.getElem?_cons_zero]; rfl) (by kernel_rfl) (by kernel_rfl) (by kernel_rfl) (by exact fun _ _ _ h => h) (Or.inl ⟨by rfl, ?_⟩) hHeld ?_
        rotate_left
        · intro w hSw; (try dsimp only at hSw); go_simp; (try with_reducible rfl)
        try simp only [Act.put, List.setIfInBounds_toArray, List.set_cons_zero, List.set_cons_succ]
        refine wpAnyH_take (i := 1) (v := ?_) (by simp only [List.getElem?_toArray, List.getElem?_cons_succ, List.getElem?_cons_zero]; rfl) (by kernel_rfl) (by kernel_rfl) (by kernel_rfl) (by exact fun _ _ _ h => h) (Or.inl ⟨by rfl, ?_⟩) hHeld ?_
        rotate_left
        · intro w hSw; (try dsimp only at hSw); go_simp; (try with_reducible rfl)
        try simp only [Act.put, List.setIfInBounds_toArray, List.set_cons_zero, List.set_cons_succ]
        refine wpAnyH_take (i := 2) (v := ?_) (by simp only [List.getElem?_toArray, List.getElem?_cons_succ, List.getElem?_cons_zero]; rfl) (by kernel_rfl) (by kernel_rfl) (by kernel_rfl) (by exact fun _ _ _ h => h) (Or.inl ⟨by rfl, ?_⟩) hHeld ?_
        rotate_left
        · intro w hSw; (try dsimp only at hSw); go_simp; (try with_reducible rfl)
        try simp only [Act.put, List.setIfInBounds_toArray, List.set_cons_zero, List.set_cons_succ]
        refine wpAnyH_take (i := 4) (v := ?_) (by simp only [List.getElem?_toArray, List.getElem?_cons_succ, List.getElem?_cons_zero]; rfl) (by kernel_rfl) (by kernel_rfl) (by kernel_rfl) (by exact fun _ _ _ h => h) (Or.inl ⟨by rfl, ?_⟩) hHeld ?_
        rotate_left
        · intro w hSw; (try dsimp only at hSw); go_simp; (try with_reducible rfl)
        try simp only [Act.put, List.setIfInBounds_toArray, List.set_cons_zero, List.set_cons_succ]
        refine wpAnyH_take (i := 5) (v := ?_) (by simp only [List.getElem?_toArray, List.getElem?_cons_succ, List.getElem?_cons_zero]; rfl) (by kernel_rfl) (by kernel_rfl) (by kernel_rfl) (by exact fun _ _ _ h => h) (Or.inl ⟨by rfl, ?_⟩) hHeld ?_
        rotate_left
        · intro w hSw; (try dsimp only at hSw); go_simp; (try with_reducible rfl)
        try simp only [Act.put, List.setIfInBounds_toArray, List.set_cons_zero, List.set_cons_succ]
        refine wpAnyH_take (i := 6) (v := ?_) (by simp only [List.getElem?_toArray, List.getElem?_cons_succ, List.getElem?_cons_zero]; rfl) (by kernel_rfl) (by kernel_rfl) (by kernel_rfl) (by exact fun _ _ _ h => h) (Or.inl ⟨by rfl, ?_⟩) hHeld ?_
        rotate_left
        · intro w hSw; (try dsimp only at hSw); go_simp; (try with_reducible rfl)
        try simp only [Act.put, List.setIfInBounds_toArray, List.set_cons_zero, List.set_cons_succ]
        refine wpAnyH_take (i := 7) (v := ?_) (by simp only [List.getElem?_toArray, List.getElem?_cons_succ, List.getElem?_cons_zero]; rfl) (by kernel_rfl) (by kernel_rfl) (by kernel_rfl) (by exact fun _ _ _ h => h) (Or.inl ⟨by rfl, ?_⟩) hHeld ?_
        rotate_left
        · intro w hSw; (try dsimp only at hSw); go_simp; (try with_reducible rfl)
        try simp only [Act.put, List.setIfInBounds_toArray, List.set_cons_zero, List.set_cons_succ]
        refine wpAnyH_take (i := 8) (v := ?_) (by simp only [List.getElem?_toArray, List.getElem?_cons_succ, List.getElem?_cons_zero]; rfl) (by kernel_rfl) (by kernel_rfl) (by kernel_rfl) (by exact fun _ _ _ h => h) (Or.inl ⟨by rfl, ?_⟩) hHeld ?_
        rotate_left
        · intro w hSw; (try dsimp only at hSw); go_simp; (try with_reducible rfl)
        try simp only [Act.put, List.setIfInBounds_toArray, List.set_cons_zero, List.set_cons_succ]
        refine wpAnyH_ready (rs := [3]) (by kernel_rfl) (by simp) ?_
        refine AllReadyH.cons (by simp only [List.getElem?_toArray, List.getElem?_cons_succ, List.getElem?_cons_zero]; rfl) (fun kC hkC => ?_) AllReadyH.nil
        go_simp
        refine (rlock_lit 2 2 4 0 2 l 0 _ HTL.out _).mono ?_; rintro e w5 ⟨rfl, hk5⟩; have hb5 := hbe.no hk5; have hm5 := hme.keep hk5 (fun f => f) (fun _ _ f => f)
        (try go_wp2_with fail)
        refine hkC.out _ _ (hb5.two) (fun hHeld => ?_)
        clear hkC kC
        try simp only [Act.put, List.setIfInBounds_toArray, List.set_cons_zero, List.set_cons_succ]
        refine wpAnyH_ready (rs := [9]) (by kernel_rfl) (by simp) ?_
        refine AllReadyH.cons (by simp only [List.getElem?_toArray, List.getElem?_cons_succ, List.getElem?_cons_zero]; rfl) (fun kC hkC => ?_) AllReadyH.nil
        go_simp
        refine (HID.out _).mono ?_; rintro e w6 ⟨rfl, hk6⟩; have hb6 := hb5.no hk6; have hm6 := hm5.keep hk6 (fun f => f) (fun _ _ f => f)
        (try go_wp2_with fail)
        refine hkC.out _ _ (hb6.two) (fun hHeld => ?_)
        clear hkC kC
        try simp only [Act.put, List.setIfInBounds_toArray, List.set_cons_zero, List.set_cons_succ]
        refine wpAnyH_take (i := 10) (v := ?_) (by simp only [List.getElem?_toArray, List.getElem?_cons_succ, List.getElem?_cons_zero]; rfl) (by kernel_rfl) (by kernel_rfl) (by kernel_rfl) (by exact fun _ _ _ h => h) (Or.inl ⟨by rfl, ?_⟩) hHeld ?_
        rotate_left
        · intro w hSw; (try dsimp only at hSw); go_simp; (try with_reducible rfl)
        try simp only [Act.put, List.setIfInBounds_toArray, List.set_cons_zero, List.set_cons_succ]
        refine wpAnyH_take (i := 11) (v := ?_) (by simp only [List.getElem?_toArray, List.getElem?_cons_succ, List.getElem?_cons_zero]; rfl) (by kernel_rfl) (by kernel_rfl) (by kernel_rfl) (by exact fun _ _ _ h => h) (Or.inl ⟨by rfl, ?_⟩) hHeld ?_
        rotate_left
        · intro w hSw; (try dsimp only at hSw); go_simp; (try with_reducible rfl)
        try simp only [Act.put, List.setIfInBounds_toArray, List.set_cons_zero, List.set_cons_succ]
        refine wpAnyH_done (by kernel_rfl) ?_ _
        have hk06 := (((((((HK.out.trans hk1).trans (Keeps.refl NoS w1).drew).trans hk2).trans hk3).trans (Keeps.refl NoS w3).drew).trans hk5).trans hk6)
        have HB6 := Lib.hid hb6; have HM6 := Lib.hid hm6; have HK6 := Lib.hid hk06
        clear hb6 hm6 hk06 hb5 hm5 hbe hme hb3 hm3 hb2 hm2 hbd hmd hb1 hm1 m0 m1 m2 m3 m4 c0 c1 c2 c3 c4 r0 r1 r2 r3 r4 f0 f1 f2 f3 f4 g0 g1 g2 g3 g4 z1 z2
        obtain ⟨⟨m0, m1, m2, m3, m4⟩, ⟨c0, c1, c2, c3, c4⟩, ⟨r0, r1, r2, r3, r4⟩, ⟨f0, f1, f2, f3, f4⟩, ⟨g0, g1, g2, g3, g4⟩, z1, z2⟩ := HB6.out.facts
        go_wp2_with (go_at_call 66; refine (rswap_yes a v M (tlA l) x y _ HM6.out HNT.out HQ.out).mono ?_; rw [HC.out]; rintro e w4 ⟨rfl, hm, hk4⟩; have hb4 := HB6.out.own hk4 ha HV.out; obtain ⟨⟨m0, m1, m2, m3, m4⟩, ⟨c0, c1, c2, c3, c4⟩, ⟨r0, r1, r2, r3, r4⟩, ⟨f0, f1, f2, f3, f4⟩, ⟨g0, g1, g2, g3, g4⟩, z1, z2⟩ := hb4.facts; have hkk : Keeps (own2m a v) w w4 := HK6.out.no.trans hk4; clear hb4)
        refine bodyPost_ret (v := .agg #[.int .i64 t, .int .i64 l, .int .i64 9, .bool r, .int .i64 x]) (by simp [results, Try.results34, go_sem, *]) rfl ⟨rfl, ?_, ?_⟩
        · repeat (first | (with_reducible exact hm) | refine MemT.set (B := B) ?_ ha HV.out _ (by show B ≤ _; dsimp only; omega) _)
        · repeat (first | (with_reducible exact hkk) | refine kset HB.out ?_ _ (by show B ≤ _; dsimp only; omega) _)
      · rw [show mTake M t l 3 r x = (M.swap (tlA l) x y, ⟨t, l, 4, r, x⟩) by (unfold mTake; rw [if_neg (show ¬ (3 : Int) = 0 by decide), if_neg (show ¬ (3 : Int) = 1 by decide), if_neg (show ¬ (3 : Int) = 2 by decide), if_pos rfl, hc, if_pos hcx, if_neg hx0, HYD.out])]
        have hx1 : (x == 0) = false := by simpa using hx0
        clear hx0 hq hc hcx
        unfold handV
        dsimp only
        go_enter Try.func34, Try.ntmps34
        go_wp2_with fail
        rw [HB.out]
        refine (rmay8_any t l 3 r x _).mono ?_
        rw [HOK.out]
        rintro e w1 ⟨rfl, hk1⟩
        have hb1 := HBX.out.no hk1
        have hm1 := HA2.out.keep hk1 (fun f => f) (fun _ _ f => f)
        obtain ⟨⟨m0, m1, m2, m3, m4⟩, ⟨c0, c1, c2, c3, c4⟩, ⟨r0, r1, r2, r3, r4⟩, ⟨f0, f1, f2, f3, f4⟩, ⟨g0, g1, g2, g3, g4⟩, z1, z2⟩ := hb1.facts
        go_wp2_with fail
        have hbd := hb1.no ((Keeps.refl NoS w1).drew)
        have hmd := hm1.keep ((Keeps.refl NoS w1).drew) (fun f => f) (fun _ _ f => f)
        refine wp_region_held_drew (S := (fun w' => (w'.cell? ⟨B, 0, none⟩ = some (.int .i64 2) ∧ w'.cell? ⟨B, 1, none⟩ = some (.int .i64 2) ∧ w'.cell? ⟨B, 2, none⟩ = some (.int .i64 4) ∧ w'.cell? ⟨B, 3, none⟩ = some (.int .i64 0) ∧ w'.cell? ⟨B, 4, none⟩ = some (.int .i64 2)) ∧ (w'.cell? ⟨(B + 1), 0, none⟩ = some (.int .i64 t) ∧ w'.cell? ⟨(B + 1), 1, none⟩ = some (.int .i64 l) ∧ w'.cell? ⟨(B + 1), 2, none⟩ = some (.int .i64 3) ∧ w'.cell? ⟨(B + 1), 3, none⟩ = some (.bool r) ∧ w'.cell? ⟨(B + 1), 4, none⟩ = some (.int .i64 x)))) (by kernel_rfl) (hbd.two) (fun hHeld => ?_)
        refine wpAnyH_take (i := 0) (v := ?_) (by simp only [List.getElem?_toArray, List.getElem?_cons_succ, List.getElem?_cons_zero]; rfl) (by kernel_rfl) (by kernel_rfl) (by kernel_rfl) (by exact fun _ _ _ h => h) (Or.inl ⟨by rfl, ?_⟩) hHeld ?_
        rotate_left
        · intro w hSw; (try dsimp only at hSw); go_simp; (try with_reducible rfl)
        try simp only [Act.put, List.setIfInBounds_toArray, List.set_cons_zero, List.set_cons_succ]
        refine wpAnyH_take (i := 1) (v := ?_) (by simp only [List.getElem?_toArray, List.getElem?_cons_succ, List.getElem?_cons_zero]; rfl) (by kernel_rfl) (by kernel_rfl) (by kernel_rfl) (by exact fun _ _ _ h => h) (Or.inl ⟨by rfl, ?_⟩) hHeld ?_
        rotate_left
        · intro w hSw; (try dsimp only at hSw); go_simp; (try with_reducible rfl)
        try simp only [Act.put, List.setIfInBounds_toArray, List.set_cons_zero, List.set_cons_succ]
        refine wpAnyH_take (i := 2) (v := ?_) (by simp only [List.getElem?_toArray, List.getElem?_cons_succ, List.getElem?_cons_zero]; rfl) (by kernel_rfl) (by kernel_rfl) (by kernel_rfl) (by exact fun _ _ _ h => h) (Or.inl ⟨by rfl, ?_⟩) hHeld ?_
        rotate_left
        · intro w hSw; (try dsimp only at hSw); go_simp; (try with_reducible rfl)
        try simp only [Act.put, List.setIfInBounds_toArray, List.set_cons_zero, List.set_cons_succ]
        refine wpAnyH_take (i := 3) (v := ?_) (by simp only [List.getElem?_toArray, List.getElem?_cons_succ, List.getElem?_cons_zero]; rfl) (by kernel_rfl) (by kernel_rfl) (by kernel_rfl) (by exact fun _ _ _ h => h) (Or.inl ⟨by rfl, ?_⟩) hHeld ?_
        rotate_left
        · intro w hSw; (try dsimp only at hSw); go_simp; (try with_reducible rfl)
        try simp only [Act.put, List.setIfInBounds_toArray, List.set_cons_zero, List.set_cons_succ]
        refine wpAnyH_take (i := 4) (v := ?_) (by simp only [List.getElem?_toArray, List.getElem?_cons_succ, List.getElem?_cons_zero]; rfl) (by kernel_rfl) (by kernel_rfl) (by kernel_rfl) (by exact fun _ _ _ h => h) (Or.inl ⟨by rfl, ?_⟩) hHeld ?_
        rotate_left
        · intro w hSw; (try dsimp only at hSw); go_simp; (try with_reducible rfl)
        try simp only [Act.put, List.setIfInBounds_toArray, List.set_cons_zero, List.set_cons_succ]
        refine wpAnyH_take (i := 6) (v := ?_) (by simp only [List.getElem?_toArray, List.getElem?_cons_succ, List.getElem?_cons_zero]; rfl) (by kernel_rfl) (by kernel_rfl) (by kernel_rfl) (by exact fun _ _ _ h => h) (Or.inl ⟨by rfl, ?_⟩) hHeld ?_
        rotate_left
        · intro w hSw; (try dsimp only at hSw); go_simp; (try with_reducible rfl)
        try simp only [Act.put, List.setIfInBounds_toArray, List.set_cons_zero, List.set_cons_succ]
        refine wpAnyH_take (i := 7) (v := ?_) (by simp only [List.getElem?_toArray, List.getElem?_cons_succ, List.getElem?_cons_zero]; rfl) (by kernel_rfl) (by kernel_rfl) (by kernel_rfl) (by exact fun _ _ _ h => h) (Or.inl ⟨by rfl, ?_⟩) hHeld ?_
        rotate_left
        · intro w hSw; (try dsimp only at hSw); go_simp; (try with_reducible rfl)
        try simp only [Act.put, List.setIfInBounds_toArray, List.set_cons_zero, List.set_cons_succ]
        refine wpAnyH_take (i := 8) (v := ?_) (by simp only [List.getElem?_toArray, List.getElem?_cons_succ, List.getElem?_cons_zero]; rfl) (by kernel_rfl) (by kernel_rfl) (by kernel_rfl) (by exact fun _ _ _ h => h) (Or.inl ⟨by rfl, ?_⟩) hHeld ?_
        rotate_left
        · intro w hSw; (try dsimp only at hSw); go_simp; (try with_reducible rfl)
        try simp only [Act.put, List.setIfInBounds_toArray, List.set_cons_zero, List.set_cons_succ]
        refine wpAnyH_take (i := 9) (v := ?_) (by simp only [List.getElem?_toArray, List.getElem?_cons_succ, List.getElem?_cons_zero]; rfl) (by kernel_rfl) (by kernel_rfl) (by kernel_rfl) (by exact fun _ _ _ h => h) (Or.inl ⟨by rfl, ?_⟩) hHeld ?_
        rotate_left
        · intro w hSw; (try dsimp only at hSw); go_simp; (try with_reducible rfl)
        try simp only [Act.put, List.setIfInBounds_toArray, List.set_cons_zero, List.set_cons_succ]
        refine wpAnyH_take (i := 10) (v := ?_) (by simp only [List.getElem?_toArray, List.getElem?_cons_succ, List.getElem?_cons_zero]; rfl) (by kernel_rfl) (by kernel_rfl) (by kernel_rfl) (by exact fun _ _ _ h => h) (Or.inl ⟨by rfl, ?_⟩) hHeld ?_
        rotate_left
        · intro w hSw; (try dsimp only at hSw); go_simp; (try with_reducible rfl)
        try simp only [Act.put, List.setIfInBounds_toArray, List.set_cons_zero, List.set_cons_succ]
        refine wpAnyH_ready (rs := [5]) (by kernel_rfl) (by simp) ?_
        refine AllReadyH.cons (by simp only [List.getElem?_toArray, List.getElem?_cons_succ, List.getElem?_cons_zero]; rfl) (fun kC hkC => ?_) AllReadyH.nil
        go_simp
        refine (rnode_lit 2 2 4 0 2 t l 0 _ HG0.out _).mono ?_; rintro e w2 ⟨rfl, hk2⟩; have hb2 := hbd.no hk2; have hm2 := hmd.keep hk2 (fun f => f) (fun _ _ f => f)
        (try go_wp2_with fail)
        refine hkC.out _ _ (hb2.two) (fun hHeld => ?_)
        clear hkC kC
        try simp only [Act.put, List.setIfInBounds_toArray, List.set_cons_zero, List.set_cons_succ]
        refine wpAnyH_ready (rs := [11]) (by kernel_rfl) (by simp) ?_
        refine AllReadyH.cons (by simp only [List.getElem?_toArray, List.getElem?_cons_succ, List.getElem?_cons_zero]; rfl) (fun kC hkC => ?_) AllReadyH.nil
        go_simp
        refine (rnode_lit 2 2 4 0 2 t l 1 _ HG1.out _).mono ?_; rintro e w3 ⟨rfl, hk3⟩; have hb3 := hb2.no hk3; have hm3 := hm2.keep hk3 (fun f => f) (fun _ _ f => f)
        (try go_wp2_with fail)
        refine hkC.out _ _ (hb3.two) (fun hHeld => ?_)
        clear hkC kC
        try simp only [Act.put, List.setIfInBounds_toArray, List.set_cons_zero, List.set_cons_succ]
        refine wpAnyH_take (i := 12) (v := ?_) (by simp only [List.getElem?_toArray, List.getElem?_cons_succ, List.getElem?_cons_zero]; rfl) (by kernel_rfl) (by kernel_rfl) (by kernel_rfl) (by exact fun _ _ _ h => h) (Or.inl ⟨by rfl, ?_⟩) hHeld ?_
        rotate_left
        · intro w hSw; (try dsimp only at hSw); go_simp; (try with_reducible rfl)
        try simp only [Act.put, List.setIfInBounds_toArray, List.set_cons_zero, List.set_cons_succ]
        refine wpAnyH_take (i := 13) (v := ?_) (by simp only [List.getElem?_toArray, List.getElem?_cons_succ, List.getElem?_cons_zero]; rfl) (by kernel_rfl) (by kernel_rfl) (by kernel_rfl) (by exact fun _ _ _ h => h) (Or.inl ⟨by rfl, ?_⟩) hHeld ?_
        rotate_left
        · intro w hSw; (try dsimp only at hSw); go_simp; (try with_reducible rfl)
        try simp only [Act.put, List.setIfInBounds_toArray, List.set_cons_zero, List.set_cons_succ]
        refine wpAnyH_done (by kernel_rfl) ?_ _
        go_wp2_with fail
        have hbe := hb3.no ((Keeps.refl NoS w3).drew)
        have hme := hm3.keep ((Keeps.refl NoS w3).drew) (fun f => f) (fun _ _ f => f)
        refine wp_region_held_drew (S := (fun w' => (w'.cell? ⟨B, 0, none⟩ = some (.int .i64 2) ∧ w'.cell? ⟨B, 1, none⟩ = some (.int .i64 2) ∧ w'.cell? ⟨B, 2, none⟩ = some (.int .i64 4) ∧ w'.cell? ⟨B, 3, none⟩ = some (.int .i64 0) ∧ w'.cell? ⟨B, 4, none⟩ = some (.int .i64 2)) ∧ (w'.cell? ⟨(B + 1), 0, none⟩ = some (.int .i64 t) ∧ w'.cell? ⟨(B + 1), 1, none⟩ = some (.int .i64 l) ∧ w'.cell? ⟨(B + 1), 2, none⟩ = some (.int .i64 3) ∧ w'.cell? ⟨(B + 1), 3, none⟩ = some (.bool r) ∧ w'.cell? ⟨(B + 1), 4, none⟩ = some (.int .i64 x)))) (by kernel_rfl) (hbe.two) (fun hHeld => ?_)
        refine wpAnyH_take (i := 0) (v := ?_) (by simp only [List.getElem?_toArray, List.getElem?_cons_succ, List.getElem?_cons_zero]; rfl) (by kernel_rfl) (by kernel_rfl) (by kernel_rfl) (by exact fun _ _ _ h => h) (Or.inl ⟨by rfl, ?_⟩) hHeld ?_
        rotate_left
        · intro w hSw; (try dsimp only at hSw); go_simp; (try with_reducible rfl)
        try simp only [Act.put, List.setIfInBounds_toArray, List.set_cons_zero, List.set_cons_succ]
        refine wpAnyH_take (i := 1) (v := ?_) (by simp only [List.getElem?_toArray, List.getElem?_cons_succ, List.getElem?_cons_zero]; rfl) (by kernel_rfl) (by kernel_rfl) (by kernel_rfl) (by exact fun _ _ _ h => h) (Or.inl ⟨by rfl, ?_⟩) hHeld ?_
        rotate_left
        · intro w hSw; (try dsimp only at hSw); go_simp; (try with_reducible rfl)
        try simp only [Act.put, List.setIfInBounds_toArray, List.set_cons_zero, List.set_cons_succ]
        refine wpAnyH_take (i := 2) (v := ?_) (by simp only [List.getElem?_toArray, List.getElem?_cons_succ, List.getElem?_cons_zero]; rfl) (by kernel_rfl) (by kernel_rfl) (by kernel_rfl) (by exact fun _ _ _ h => h) (Or.inl ⟨by rfl, ?_⟩) hHeld ?_
        rotate_left
        · intro w hSw; (try dsimp only at hSw); go_simp; (try with_reducible rfl)
        try simp only [Act.put, List.setIfInBounds_toArray, List.set_cons_zero, List.set_cons_succ]
        refine wpAnyH_take (i := 4) (v := ?_) (by simp only [List.getElem?_toArray, List.getElem?_cons_succ, List.getElem?_cons_zero]; rfl) (by kernel_rfl) (by kernel_rfl) (by kernel_rfl) (by exact fun _ _ _ h => h) (Or.inl ⟨by rfl, ?_⟩) hHeld ?_
        rotate_left
        · intro w hSw; (try dsimp only at hSw); go_simp; (try with_reducible rfl)
        try simp only [Act.put, List.setIfInBounds_toArray, List.set_cons_zero, List.set_cons_succ]
        refine wpAnyH_take (i := 5) (v := ?_) (by simp only [List.getElem?_toArray, List.getElem?_cons_succ, List.getElem?_cons_zero]; rfl) (by kernel_rfl) (by kernel_rfl) (by kernel_rfl) (by exact fun _ _ _ h => h) (Or.inl ⟨by rfl, ?_⟩) hHeld ?_
        rotate_left
        · intro w hSw; (try dsimp only at hSw); go_simp; (try with_reducible rfl)
        try simp only [Act.put, List.setIfInBounds_toArray, List.set_cons_zero, List.set_cons_succ]
        refine wpAnyH_take (i := 6) (v := ?_) (by simp only [List.getElem?_toArray, List.getElem?_cons_succ, List.getElem?_cons_zero]; rfl) (by kernel_rfl) (by kernel_rfl) (by kernel_rfl) (by exact fun _ _ _ h => h) (Or.inl ⟨by rfl, ?_⟩) hHeld ?_
        rotate_left
        · intro w hSw; (try dsimp only at hSw); go_simp; (try with_reducible rfl)
        try simp only [Act.put, List.setIfInBounds_toArray, List.set_cons_zero, List.set_cons_succ]
        refine wpAnyH_take (i := 7) (v := ?_) (by simp only [List.getElem?_toArray, List.getElem?_cons_succ, List.getElem?_cons_zero]; rfl) (by kernel_rfl) (by kernel_rfl) (by kernel_rfl) (by exact fun _ _ _ h => h) (Or.inl ⟨by rfl, ?_⟩) hHeld ?_
        rotate_left
        · intro w hSw; (try dsimp only at hSw); go_simp; (try with_reducible rfl)
        try simp only [Act.put, List.setIfInBounds_toArray, List.set_cons_zero, List.set_cons_succ]
        refine wpAnyH_take (i := 8) (v := ?_) (by simp only [List.getElem?_toArray, List.getElem?_cons_succ, List.getElem?_cons_zero]; rfl) (by kernel_rfl) (by kernel_rfl) (by kernel_rfl) (by exact fun _ _ _ h => h) (Or.inl ⟨by rfl, ?_⟩) hHeld ?_
        rotate_left
        · intro w hSw; (try dsimp only at hSw); go_simp; (try with_reducible rfl)
        try simp only [Act.put, List.setIfInBounds_toArray, List.set_cons_zero, List.set_cons_succ]
        refine wpAnyH_ready (rs := [3]) (by kernel_rfl) (by simp) ?_
        refine AllReadyH.cons (by simp only [List.getElem?_toArray, List.getElem?_cons_succ, List.getElem?_cons_zero]; rfl) (fun kC hkC => ?_) AllReadyH.nil
        go_simp
        refine (rlock_lit 2 2 4 0 2 l 0 _ HTL.out _).mono ?_; rintro e w5 ⟨rfl, hk5⟩; have hb5 := hbe.no hk5; have hm5 := hme.keep hk5 (fun f => f) (fun _ _ f => f)
        (try go_wp2_with fail)
        refine hkC.out _ _ (hb5.two) (fun hHeld => ?_)
        clear hkC kC
        try simp only [Act.put, List.setIfInBounds_toArray, List.set_cons_zero, List.set_cons_succ]
        refine wpAnyH_ready (rs := [9]) (by kernel_rfl) (by simp) ?_
        refine AllReadyH.cons (by simp only [List.getElem?_toArray, List.getElem?_cons_succ, List.getElem?_cons_zero]; rfl) (fun kC hkC => ?_) AllReadyH.nil
        go_simp
        refine (HID.out _).mono ?_; rintro e w6 ⟨rfl, hk6⟩; have hb6 := hb5.no hk6; have hm6 := hm5.keep hk6 (fun f => f) (fun _ _ f => f)
        (try go_wp2_with fail)
        refine hkC.out _ _ (hb6.two) (fun hHeld => ?_)
        clear hkC kC
        try simp only [Act.put, List.setIfInBounds_toArray, List.set_cons_zero, List.set_cons_succ]
        refine wpAnyH_take (i := 10) (v := ?_) (by simp only [List.getElem?_toArray, List.getElem?_cons_succ, List.getElem?_cons_zero]; rfl) (by kernel_rfl) (by kernel_rfl) (by kernel_rfl) (by exact fun _ _ _ h => h) (Or.inl ⟨by rfl, ?_⟩) hHeld ?_
        rotate_left
        · intro w hSw; (try dsimp only at hSw); go_simp; (try with_reducible rfl)
        try simp only [Act.put, List.setIfInBounds_toArray, List.set_cons_zero, List.set_cons_succ]
        refine wpAnyH_take (i := 11) (v := ?_) (by simp only [List.getElem?_toArray, List.getElem?_cons_succ, List.getElem?_cons_zero]; rfl) (by kernel_rfl) (by kernel_rfl) (by kernel_rfl) (by exact fun _ _ _ h => h) (Or.inl ⟨by rfl, ?_⟩) hHeld ?_
        rotate_left
        · intro w hSw; (try dsimp only at hSw); go_simp; (try with_reducible rfl)
        try simp only [Act.put, List.setIfInBounds_toArray, List.set_cons_zero, List.set_cons_succ]
        refine wpAnyH_done (by kernel_rfl) ?_ _
        have hk06 := (((((((HK.out.trans hk1).trans (Keeps.refl NoS w1).drew).trans hk2).trans hk3).trans (Keeps.refl NoS w3).drew).trans hk5).trans hk6)
        have HB6 := Lib.hid hb6; have HM6 := Lib.hid hm6; have HK6 := Lib.hid hk06
        clear hb6 hm6 hk06 hb5 hm5 hbe hme hb3 hm3 hb2 hm2 hbd hmd hb1 hm1 m0 m1 m2 m3 m4 c0 c1 c2 c3 c4 r0 r1 r2 r3 r4 f0 f1 f2 f3 f4 g0 g1 g2 g3 g4 z1 z2
        obtain ⟨⟨m0, m1, m2, m3, m4⟩, ⟨c0, c1, c2, c3, c4⟩, ⟨r0, r1, r2, r3, r4⟩, ⟨f0, f1, f2, f3, f4⟩, ⟨g0, g1, g2, g3, g4⟩, z1, z2⟩ := HB6.out.facts
        go_wp2_with (go_at_call 66; refine (rswap_yes a v M (tlA l) x y _ HM6.out HNT.out HQ.out).mono ?_; rw [HC.out]; rintro e w4 ⟨rfl, hm, hk4⟩; have hb4 := HB6.out.own hk4 ha HV.out; obtain ⟨⟨m0, m1, m2, m3, m4⟩, ⟨c0, c1, c2, c3, c4⟩, ⟨r0, r1, r2, r3, r4⟩, ⟨f0, f1, f2, f3, f4⟩, ⟨g0, g1, g2, g3, g4⟩, z1, z2⟩ := hb4.facts; have hkk : Keeps (own2m a v) w w4 := HK6.out.no.trans hk4; clear hb4)
        refine bodyPost_ret (v := .agg #[.int .i64 t, .int .i64 l, .int .i64 4, .bool r, .int .i64 x]) (by simp [results, Try.results34, go_sem, *]) rfl ⟨rfl, ?_, ?_⟩
        · repeat (first | (with_reducible exact hm) | refine MemT.set (B := B) ?_ ha HV.out _ (by show B ≤ _; dsimp only; omega) _)
        · repeat (first | (with_reducible exact hkk) | refine kset HB.out ?_ _ (by show B ≤ _; dsimp only; omega) _)
    · have hq : (M.word (tlA l) == x) = false := by rw [hc]; simpa using hcx
      have HQ := Lib.hid hq
      rw [show mTake M t l 3 r x = (M.swap (tlA l) x y, ⟨t, l, 3, r, c⟩) by (unfold mTake; rw [if_neg (show ¬ (3 : Int) = 0 by decide), if_neg (show ¬ (3 : Int) = 1 by decide), if_neg (show ¬ (3 : Int) = 2 by decide), if_pos rfl, hc, if_neg hcx, HYD.out])]
      clear hq hc hcx
      unfold handV
      dsimp only
      go_enter Try.func34, Try.ntmps34
      go_wp2_with fail
      rw [HB.out]
      refine (rmay8_any t l 3 r x _).mono ?_
      rw [HOK.out]
      rintro e w1 ⟨rfl, hk1⟩
      have hb1 := HBX.out.no hk1
      have hm1 := HA2.out.keep hk1 (fun f => f) (fun _ _ f => f)
      obtain ⟨⟨m0, m1, m2, m3, m4⟩, ⟨c0, c1, c2, c3, c4⟩, ⟨r0, r1, r2, r3, r4⟩, ⟨f0, f1, f2, f3, f4⟩, ⟨g0, g1, g2, g3, g4⟩, z1, z2⟩ := hb1.facts
      go_wp2_with fail
      have hbd := hb1.no ((Keeps.refl NoS w1).drew)
      have hmd := hm1.keep ((Keeps.refl NoS w1).drew) (fun f => f) (fun _ _ f => f)
      refine wp_region_held_drew (S := (fun w' => (w'.cell? ⟨B, 0, none⟩ = some (.int .i64 2) ∧ w'.cell? ⟨B, 1, none⟩ = some (.int .i64 2) ∧ w'.cell? ⟨B, 2, none⟩ = some (.int .i64 4) ∧ w'.cell? ⟨B, 3, none⟩ = some (.int .i64 0) ∧ w'.cell? ⟨B, 4, none⟩ = some (.int .i64 2)) ∧ (w'.cell? ⟨(B + 1), 0, none⟩ = some (.int .i64 t) ∧ w'.cell? ⟨(B + 1), 1, none⟩ = some (.int .i64 l) ∧ w'.cell? ⟨(B + 1), 2, none⟩ = some (.int .i64 3) ∧ w'.cell? ⟨(B + 1), 3, none⟩ = some (.bool r) ∧ w'.cell? ⟨(B + 1), 4, none⟩ = some (.int .i64 x)))) (by kernel_rfl) (hbd.two) (fun hHeld => ?_)
      refine wpAnyH_take (i := 0) (v := ?_) (by simp only [List.getElem?_toArray, List.getElem?_cons_succ, List.getElem?_cons_zero]; rfl) (by kernel_rfl) (by kernel_rfl) (by kernel_rfl) (by exact fun _ _ _ h => h) (Or.inl ⟨by rfl, ?_⟩) hHeld ?_
      rotate_left
      · intro w hSw; (try dsimp only at hSw); go_simp; (try with_reducible rfl)
      try simp only [Act.put, List.setIfInBounds_toArray, List.set_cons_zero, List.set_cons_succ]
      refine wpAnyH_take (i := 1) (v := ?_) (by simp only [List.getElem?_toArray, List.getElem?_cons_succ, List.getElem?_cons_zero]; rfl) (by kernel_rfl) (by kernel_rfl) (by kernel_rfl) (by exact fun _ _ _ h => h) (Or.inl ⟨by rfl, ?_⟩) hHeld ?_
      rotate_left
      · intro w hSw; (try dsimp only at hSw); go_simp; (try with_reducible rfl)
      try simp only [Act.put, List.setIfInBounds_toArray, List.set_cons_zero, List.set_cons_succ]
      refine wpAnyH_take (i := 2) (v := ?_) (by simp only [List.getElem?_toArray, List.getElem?_cons_succ, List.getElem?_cons_zero]; rfl) (by kernel_rfl) (by kernel_rfl) (by kernel_rfl) (by exact fun _ _ _ h => h) (Or.inl ⟨by rfl, ?_⟩) hHeld ?_
      rotate_left
      · intro w hSw; (try dsimp only at hSw); go_simp; (try with_reducible rfl)
      try simp only [Act.put, List.setIfInBounds_toArray, List.set_cons_zero, List.set_cons_succ]
      refine wpAnyH_take (i := 3) (v := ?_) (by simp only [List.getElem?_toArray, List.getElem?_cons_succ, List.getElem?_cons_zero]; rfl) (by kernel_rfl) (by kernel_rfl) (by kernel_rfl) (by exact fun _ _ _ h => h) (Or.inl ⟨by rfl, ?_⟩) hHeld ?_
      rotate_left
      · intro w hSw; (try dsimp only at hSw); go_simp; (try with_reducible rfl)
      try simp only [Act.put, List.setIfInBounds_toArray, List.set_cons_zero, List.set_cons_succ]
      refine wpAnyH_take (i := 4) (v := ?_) (by simp only [List.getElem?_toArray, List.getElem?_cons_succ, List.getElem?_cons_zero]; rfl) (by kernel_rfl) (by kernel_rfl) (by kernel_rfl) (by exact fun _ _ _ h => h) (Or.inl ⟨by rfl, ?_⟩) hHeld ?_
      rotate_left
      · intro w hSw; (try dsimp only at hSw); go_simp; (try with_reducible rfl)
      try simp only [Act.put, List.setIfInBounds_toArray, List.set_cons_zero, List.set_cons_succ]
      refine wpAnyH_take (i := 6) (v := ?_) (by simp only [List.getElem?_toArray, List.getElem?_cons_succ, List.getElem?_cons_zero]; rfl) (by kernel_rfl) (by kernel_rfl) (by kernel_rfl) (by exact fun _ _ _ h => h) (Or.inl ⟨by rfl, ?_⟩) hHeld ?_
      rotate_left
      · intro w hSw; (try dsimp only at hSw); go_simp; (try with_reducible rfl)
      try simp only [Act.put, List.setIfInBounds_toArray, List.set_cons_zero, List.set_cons_succ]
      refine wpAnyH_take (i := 7) (v := ?_) (by simp only [List.getElem?_toArray, List.getElem?_cons_succ, List.getElem?_cons_zero]; rfl) (by kernel_rfl) (by kernel_rfl) (by kernel_rfl) (by exact fun _ _ _ h => h) (Or.inl ⟨by rfl, ?_⟩) hHeld ?_
      rotate_left
      · intro w hSw; (try dsimp only at hSw); go_simp; (try with_reducible rfl)
      try simp only [Act.put, List.setIfInBounds_toArray, List.set_cons_zero, List.set_cons_succ]
      refine wpAnyH_take (i := 8) (v := ?_) (by simp only [List.getElem?_toArray, List.getElem?_cons_succ, List.getElem?_cons_zero]; rfl) (by kernel_rfl) (by kernel_rfl) (by kernel_rfl) (by exact fun _ _ _ h => h) (Or.inl ⟨by rfl, ?_⟩) hHeld ?_
      rotate_left
      · intro w hSw; (try dsimp only at hSw); go_simp; (try with_reducible rfl)
      try simp only [Act.put, List.setIfInBounds_toArray, List.set_cons_zero, List.set_cons_succ]
      refine wpAnyH_take (i := 9) (v := ?_) (by simp only [List.getElem?_toArray, List.getElem?_cons_succ, List.getElem?_cons_zero]; rfl) (by kernel_rfl) (by kernel_rfl) (by kernel_rfl) (by exact fun _ _ _ h => h) (Or.inl ⟨by rfl, ?_⟩) hHeld ?_
      rotate_left
      · intro w hSw; (try dsimp only at hSw); go_simp; (try with_reducible rfl)
      try simp only [Act.put, List.setIfInBounds_toArray, List.set_cons_zero, List.set_cons_succ]
      refine wpAnyH_take (i := 10) (v := ?_) (by simp only [List.getElem?_toArray, List.getElem?_cons_succ, List.getElem?_cons_zero]; rfl) (by kernel_rfl) (by kernel_rfl) (by kernel_rfl) (by exact fun _ _ _ h => h) (Or.inl ⟨by rfl, ?_⟩) hHeld ?_
      rotate_left
      · intro w hSw; (try dsimp only at hSw); go_simp; (try with_reducible rfl)
      try simp only [Act.put, List.setIfInBounds_toArray, List.set_cons_zero, List.set_cons_succ]
      refine wpAnyH_ready (rs := [5]) (by kernel_rfl) (by simp) ?_
      refine AllReadyH.cons (by simp only [List.getElem?_toArray, List.getElem?_cons_succ, List.getElem?_cons_zero]; rfl) (fun kC hkC => ?_) AllReadyH.nil
      go_simp
      refine (rnode_lit 2 2 4 0 2 t l 0 _ HG0.out _).mono ?_; rintro e w2 ⟨rfl, hk2⟩; have hb2 := hbd.no hk2; have hm2 := hmd.keep hk2 (fun f => f) (fun _ _ f => f)
      (try go_wp2_with fail)
      refine hkC.out _ _ (hb2.two) (fun hHeld => ?_)
      clear hkC kC
      try simp only [Act.put, List.setIfInBounds_toArray, List.set_cons_zero, List.set_cons_succ]
      refine wpAnyH_ready (rs := [11]) (by kernel_rfl) (by simp) ?_
      refine AllReadyH.cons (by simp only [List.getElem?_toArray, List.getElem?_cons_succ, List.getElem?_cons_zero]; rfl) (fun kC hkC => ?_) AllReadyH.nil
      go_simp
      refine (rnode_lit 2 2 4 0 2 t l 1 _ HG1.out _).mono ?_; rintro e w3 ⟨rfl, hk3⟩; have hb3 := hb2.no hk3; have hm3 := hm2.keep hk3 (fun f => f) (fun _ _ f => f)
      (try go_wp2_with fail)
      refine hkC.out _ _ (hb3.two) (fun hHeld => ?_)
      clear hkC kC
      try simp only [Act.put, List.setIfInBounds_toArray, List.set_cons_zero, List.set_cons_succ]
      refine wpAnyH_take (i := 12) (v := ?_) (by simp only [List.getElem?_toArray, List.getElem?_cons_succ, List.getElem?_cons_zero]; rfl) (by kernel_rfl) (by kernel_rfl) (by kernel_rfl) (by exact fun _ _ _ h => h) (Or.inl ⟨by rfl, ?_⟩) hHeld ?_
      rotate_left
      · intro w hSw; (try dsimp only at hSw); go_simp; (try with_reducible rfl)
      try simp only [Act.put, List.setIfInBounds_toArray, List.set_cons_zero, List.set_cons_succ]
      refine wpAnyH_take (i := 13) (v := ?_) (by simp only [List.getElem?_toArray, List.getElem?_cons_succ, List.getElem?_cons_zero]; rfl) (by kernel_rfl) (by kernel_rfl) (by kernel_rfl) (by exact fun _ _ _ h => h) (Or.inl ⟨by rfl, ?_⟩) hHeld ?_
      rotate_left
      · intro w hSw; (try dsimp only at hSw); go_simp; (try with_reducible rfl)
      try simp only [Act.put, List.setIfInBounds_toArray, List.set_cons_zero, List.set_cons_succ]
      refine wpAnyH_done (by kernel_rfl) ?_ _
      go_wp2_with fail
      have hbe := hb3.no ((Keeps.refl NoS w3).drew)
      have hme := hm3.keep ((Keeps.refl NoS w3).drew) (fun f => f) (fun _ _ f => f)
      refine wp_region_held_drew (S := (fun w' => (w'.cell? ⟨B, 0, none⟩ = some (.int .i64 2) ∧ w'.cell? ⟨B, 1, none⟩ = some (.int .i64 2) ∧ w'.cell? ⟨B, 2, none⟩ = some (.int .i64 4) ∧ w'.cell? ⟨B, 3, none⟩ = some (.int .i64 0) ∧ w'.cell? ⟨B, 4, none⟩ = some (.int .i64 2)) ∧ (w'.cell? ⟨(B + 1), 0, none⟩ = some (.int .i64 t) ∧ w'.cell? ⟨(B + 1), 1, none⟩ = some (.int .i64 l) ∧ w'.cell? ⟨(B + 1), 2, none⟩ = some (.int .i64 3) ∧ w'.cell? ⟨(B + 1), 3, none⟩ = some (.bool r) ∧ w'.cell? ⟨(B + 1), 4, none⟩ = some (.int .i64 x)))) (by kernel_rfl) (hbe.two) (fun hHeld => ?_)
      refine wpAnyH_take (i := 0) (v := ?_) (by simp only [List.getElem?_toArray, List.getElem?_cons_succ, List.getElem?_cons_zero]; rfl) (by kernel_rfl) (by kernel_rfl) (by kernel_rfl) (by exact fun _ _ _ h => h) (Or.inl ⟨by rfl, ?_⟩) hHeld ?_
      rotate_left
      · intro w hSw; (try dsimp only at hSw); go_simp; (try with_reducible rfl)
      try simp only [Act.put, List.setIfInBounds_toArray, List.set_cons_zero, List.set_cons_succ]
      refine wpAnyH_take (i := 1) (v := ?_) (by simp only [List.getElem?_toArray, List.getElem?_cons_succ, List.getElem?_cons_zero]; rfl) (by kernel_rfl) (by kernel_rfl) (by kernel_rfl) (by exact fun _ _ _ h => h) (Or.inl ⟨by rfl, ?_⟩) hHeld ?_
      rotate_left
      · intro w hSw; (try dsimp only at hSw); go_simp; (try with_reducible rfl)
      try simp only [Act.put, List.setIfInBounds_toArray, List.set_cons_zero, List.set_cons_succ]
      refine wpAnyH_take (i := 2) (v := ?_) (by simp only [List.getElem?_toArray, List.getElem?_cons_succ, List.getElem?_cons_zero]; rfl) (by kernel_rfl) (by kernel_rfl) (by kernel_rfl) (by exact fun _ _ _ h => h) (Or.inl ⟨by rfl, ?_⟩) hHeld ?_
      rotate_left
      · intro w hSw; (try dsimp only at hSw); go_simp; (try with_reducible rfl)
      try simp only [Act.put, List.setIfInBounds_toArray, List.set_cons_zero, List.set_cons_succ]
      refine wpAnyH_take (i := 4) (v := ?_) (by simp only [List.getElem?_toArray, List.getElem?_cons_succ, List.getElem?_cons_zero]; rfl) (by kernel_rfl) (by kernel_rfl) (by kernel_rfl) (by exact fun _ _ _ h => h) (Or.inl ⟨by rfl, ?_⟩) hHeld ?_
      rotate_left
      · intro w hSw; (try dsimp only at hSw); go_simp; (try with_reducible rfl)
      try simp only [Act.put, List.setIfInBounds_toArray, List.set_cons_zero, List.set_cons_succ]
      refine wpAnyH_take (i := 5) (v := ?_) (by simp only [List.getElem?_toArray, List.getElem?_cons_succ, List.getElem?_cons_zero]; rfl) (by kernel_rfl) (by kernel_rfl) (by kernel_rfl) (by exact fun _ _ _ h => h) (Or.inl ⟨by rfl, ?_⟩) hHeld ?_
      rotate_left
      · intro w hSw; (try dsimp only at hSw); go_simp; (try with_reducible rfl)
      try simp only [Act.put, List.setIfInBounds_toArray, List.set_cons_zero, List.set_cons_succ]
      refine wpAnyH_take (i := 6) (v := ?_) (by simp only [List.getElem?_toArray, List.getElem?_cons_succ, List.getElem?_cons_zero]; rfl) (by kernel_rfl) (by kernel_rfl) (by kernel_rfl) (by exact fun _ _ _ h => h) (Or.inl ⟨by rfl, ?_⟩) hHeld ?_
      rotate_left
      · intro w hSw; (try dsimp only at hSw); go_simp; (try with_reducible rfl)
      try simp only [Act.put, List.setIfInBounds_toArray, List.set_cons_zero, List.set_cons_succ]
      refine wpAnyH_take (i := 7) (v := ?_) (by simp only [List.getElem?_toArray, List.getElem?_cons_succ, List.getElem?_cons_zero]; rfl) (by kernel_rfl) (by kernel_rfl) (by kernel_rfl) (by exact fun _ _ _ h => h) (Or.inl ⟨by rfl, ?_⟩) hHeld ?_
      rotate_left
      · intro w hSw; (try dsimp only at hSw); go_simp; (try with_reducible rfl)
      try simp only [Act.put, List.setIfInBounds_toArray, List.set_cons_zero, List.set_cons_succ]
      refine wpAnyH_take (i := 8) (v := ?_) (by simp only [List.getElem?_toArray, List.getElem?_cons_succ, List.getElem?_cons_zero]; rfl) (by kernel_rfl) (by kernel_rfl) (by kernel_rfl) (by exact fun _ _ _ h => h) (Or.inl ⟨by rfl, ?_⟩) hHeld ?_
      rotate_left
      · intro w hSw; (try dsimp only at hSw); go_simp; (try with_reducible rfl)
      try simp only [Act.put, List.setIfInBounds_toArray, List.set_cons_zero, List.set_cons_succ]
      refine wpAnyH_ready (rs := [3]) (by kernel_rfl) (by simp) ?_
      refine AllReadyH.cons (by simp only [List.getElem?_toArray, List.getElem?_cons_succ, List.getElem?_cons_zero]; rfl) (fun kC hkC => ?_) AllReadyH.nil
      go_simp
      refine (rlock_lit 2 2 4 0 2 l 0 _ HTL.out _).mono ?_; rintro e w5 ⟨rfl, hk5⟩; have hb5 := hbe.no hk5; have hm5 := hme.keep hk5 (fun f => f) (fun _ _ f => f)
      (try go_wp2_with fail)
      refine hkC.out _ _ (hb5.two) (fun hHeld => ?_)
      clear hkC kC
      try simp only [Act.put, List.setIfInBounds_toArray, List.set_cons_zero, List.set_cons_succ]
      refine wpAnyH_ready (rs := [9]) (by kernel_rfl) (by simp) ?_
      refine AllReadyH.cons (by simp only [List.getElem?_toArray, List.getElem?_cons_succ, List.getElem?_cons_zero]; rfl) (fun kC hkC => ?_) AllReadyH.nil
      go_simp
      refine (HID.out _).mono ?_; rintro e w6 ⟨rfl, hk6⟩; have hb6 := hb5.no hk6; have hm6 := hm5.keep hk6 (fun f => f) (fun _ _ f => f)
      (try go_wp2_with fail)
      refine hkC.out _ _ (hb6.two) (fun hHeld => ?_)
      clear hkC kC
      try simp only [Act.put, List.setIfInBounds_toArray, List.set_cons_zero, List.set_cons_succ]
      refine wpAnyH_take (i := 10) (v := ?_) (by simp only [List.getElem?_toArray, List.getElem?_cons_succ, List.getElem?_cons_zero]; rfl) (by kernel_rfl) (by kernel_rfl) (by kernel_rfl) (by exact fun _ _ _ h => h) (Or.inl ⟨by rfl, ?_⟩) hHeld ?_
      rotate_left
      · intro w hSw; (try dsimp only at hSw); go_simp; (try with_reducible rfl)
      try simp only [Act.put, List.setIfInBounds_toArray, List.set_cons_zero, List.set_cons_succ]
      refine wpAnyH_take (i := 11) (v := ?_) (by simp only [List.getElem?_toArray, List.getElem?_cons_succ, List.getElem?_cons_zero]; rfl) (by kernel_rfl) (by kernel_rfl) (by kernel_rfl) (by exact fun _ _ _ h => h) (Or.inl ⟨by rfl, ?_⟩) hHeld ?_
      rotate_left
      · intro w hSw; (try dsimp only at hSw); go_simp; (try with_reducible rfl)
      try simp only [Act.put, List.setIfInBounds_toArray, List.set_cons_zero, List.set_cons_succ]
      refine wpAnyH_done (by kernel_rfl) ?_ _
      have hk06 := (((((((HK.out.trans hk1).trans (Keeps.refl NoS w1).drew).trans hk2).trans hk3).trans (Keeps.refl NoS w3).drew).trans hk5).trans hk6)
      have HB6 := Lib.hid hb6; have HM6 := Lib.hid hm6; have HK6 := Lib.hid hk06
      clear hb6 hm6 hk06 hb5 hm5 hbe hme hb3 hm3 hb2 hm2 hbd hmd hb1 hm1 m0 m1 m2 m3 m4 c0 c1 c2 c3 c4 r0 r1 r2 r3 r4 f0 f1 f2 f3 f4 g0 g1 g2 g3 g4 z1 z2
      obtain ⟨⟨m0, m1, m2, m3, m4⟩, ⟨c0, c1, c2, c3, c4⟩, ⟨r0, r1, r2, r3, r4⟩, ⟨f0, f1, f2, f3, f4⟩, ⟨g0, g1, g2, g3, g4⟩, z1, z2⟩ := HB6.out.facts
      go_wp2_with (go_at_call 66; refine (rswap_no a v M (tlA l) x y _ HM6.out HNT.out HQ.out).mono ?_; rw [HC.out]; rintro e w4 ⟨rfl, hm, hk4⟩; have hb4 := HB6.out.own hk4 ha HV.out; obtain ⟨⟨m0, m1, m2, m3, m4⟩, ⟨c0, c1, c2, c3, c4⟩, ⟨r0, r1, r2, r3, r4⟩, ⟨f0, f1, f2, f3, f4⟩, ⟨g0, g1, g2, g3, g4⟩, z1, z2⟩ := hb4.facts; have hkk : Keeps (own2m a v) w w4 := HK6.out.no.trans hk4; clear hb4)
      refine bodyPost_ret (v := .agg #[.int .i64 t, .int .i64 l, .int .i64 3, .bool r, .int .i64 c]) (by simp [results, Try.results34, go_sem, *]) rfl ⟨rfl, ?_, ?_⟩
      · repeat (first | (with_reducible exact hm) | refine MemT.set (B := B) ?_ ha HV.out _ (by show B ≤ _; dsimp only; omega) _)
      · repeat (first | (with_reducible exact hkk) | refine kset HB.out ?_ _ (by show B ≤ _; dsimp only; omega) _)
  by_cases s4 : s = 4
  · subst s4
    cases hth : thN l x with
    | none =>
      have hnd : ndI l x 1 = -1 := by unfold ndI; rw [hth]
      rw [show mTake M t l 4 r x = (M, ⟨t, l, 4, r, x⟩) by (unfold mTake; rw [if_neg (show ¬ (4 : Int) = 0 by decide), if_neg (show ¬ (4 : Int) = 1 by decide), if_neg (show ¬ (4 : Int) = 2 by decide), if_neg (show ¬ (4 : Int) = 3 by decide), if_pos rfl, hth])]
      have HND := Lib.hid hnd
      clear hnd hth
      unfold handV
      dsimp only
      go_enter Try.func34, Try.ntmps34
      go_wp2_with fail
      rw [HB.out]
      refine (rmay8_any t l 4 r x _).mono ?_
      rw [HOK.out]
      rintro e w1 ⟨rfl, hk1⟩
      have hb1 := HBX.out.no hk1
      have hm1 := HA2.out.keep hk1 (fun f => f) (fun _ _ f => f)
      obtain ⟨⟨m0, m1, m2, m3, m4⟩, ⟨c0, c1, c2, c3, c4⟩, ⟨r0, r1, r2, r3, r4⟩, ⟨f0, f1, f2, f3, f4⟩, ⟨g0, g1, g2, g3, g4⟩, z1, z2⟩ := hb1.facts
      go_wp2_with fail
      have hbd := hb1.no ((Keeps.refl NoS w1).drew)
      have hmd := hm1.keep ((Keeps.refl NoS w1).drew) (fun f => f) (fun _ _ f => f)
      refine wp_region_held_drew (S := (fun w' => (w'.cell? ⟨B, 0, none⟩ = some (.int .i64 2) ∧ w'.cell? ⟨B, 1, none⟩ = some (.int .i64 2) ∧ w'.cell? ⟨B, 2, none⟩ = some (.int .i64 4) ∧ w'.cell? ⟨B, 3, none⟩ = some (.int .i64 0) ∧ w'.cell? ⟨B, 4, none⟩ = some (.int .i64 2)) ∧ (w'.cell? ⟨(B + 1), 0, none⟩ = some (.int .i64 t) ∧ w'.cell? ⟨(B + 1), 1, none⟩ = some (.int .i64 l) ∧ w'.cell? ⟨(B + 1), 2, none⟩ = some (.int .i64 4) ∧ w'.cell? ⟨(B + 1), 3, none⟩ = some (.bool r) ∧ w'.cell? ⟨(B + 1), 4, none⟩ = some (.int .i64 x)))) (by kernel_rfl) (hbd.two) (fun hHeld => ?_)
      refine wpAnyH_take (i := 0) (v := ?_) (by simp only [List.getElem?_toArray, List.getElem?_cons_succ, List.getElem?_cons_zero]; rfl) (by kernel_rfl) (by kernel_rfl) (by kernel_rfl) (by exact fun _ _ _ h => h) (Or.inl ⟨by rfl, ?_⟩) hHeld ?_
      rotate_left
      · intro w hSw; (try dsimp only at hSw); go_simp; (try with_reducible rfl)
      try simp only [Act.put, List.setIfInBounds_toArray, List.set_cons_zero, List.set_cons_succ]
      refine wpAnyH_take (i := 1) (v := ?_) (by simp only [List.getElem?_toArray, List.getElem?_cons_succ, List.getElem?_cons_zero]; rfl) (by kernel_rfl) (by kernel_rfl) (by kernel_rfl) (by exact fun _ _ _ h => h) (Or.inl ⟨by rfl, ?_⟩) hHeld ?_
      rotate_left
      · intro w hSw; (try dsimp only at hSw); go_simp; (try with_reducible rfl)
      try simp only [Act.put, List.setIfInBounds_toArray, List.set_cons_zero, List.set_cons_succ]
      refine wpAnyH_take (i := 2) (v := ?_) (by simp only [List.getElem?_toArray, List.getElem?_cons_succ, List.getElem?_cons_zero]; rfl) (by kernel_rfl) (by kernel_rfl) (by kernel_rfl) (by exact fun _ _ _ h => h) (Or.inl ⟨by rfl, ?_⟩) hHeld ?_
      rotate_left
      · intro w hSw; (try dsimp only at hSw); go_simp; (try with_reducible rfl)
      try simp only [Act.put, List.setIfInBounds_toArray, List.set_cons_zero, List.set_cons_succ]
      refine wpAnyH_take (i := 3) (v := ?_) (by simp only [List.getElem?_toArray, List.getElem?_cons_succ, List.getElem?_cons_zero]; rfl) (by kernel_rfl) (by kernel_rfl) (by kernel_rfl) (by exact fun _ _ _ h => h) (Or.inl ⟨by rfl, ?_⟩) hHeld ?_
      rotate_left
      · intro w hSw; (try dsimp only at hSw); go_simp; (try with_reducible rfl)
      try simp only [Act.put, List.setIfInBounds_toArray, List.set_cons_zero, List.set_cons_succ]
      refine wpAnyH_take (i := 4) (v := ?_) (by simp only [List.getElem?_toArray, List.getElem?_cons_succ, List.getElem?_cons_zero]; rfl) (by kernel_rfl) (by kernel_rfl) (by kernel_rfl) (by exact fun _ _ _ h => h) (Or.inl ⟨by rfl, ?_⟩) hHeld ?_
      rotate_left
      · intro w hSw; (try dsimp only at hSw); go_simp; (try with_reducible rfl)
      try simp only [Act.put, List.setIfInBounds_toArray, List.set_cons_zero, List.set_cons_succ]
      refine wpAnyH_take (i := 6) (v := ?_) (by simp only [List.getElem?_toArray, List.getElem?_cons_succ, List.getElem?_cons_zero]; rfl) (by kernel_rfl) (by kernel_rfl) (by kernel_rfl) (by exact fun _ _ _ h => h) (Or.inl ⟨by rfl, ?_⟩) hHeld ?_
      rotate_left
      · intro w hSw; (try dsimp only at hSw); go_simp; (try with_reducible rfl)
      try simp only [Act.put, List.setIfInBounds_toArray, List.set_cons_zero, List.set_cons_succ]
      refine wpAnyH_take (i := 7) (v := ?_) (by simp only [List.getElem?_toArray, List.getElem?_cons_succ, List.getElem?_cons_zero]; rfl) (by kernel_rfl) (by kernel_rfl) (by kernel_rfl) (by exact fun _ _ _ h => h) (Or.inl ⟨by rfl, ?_⟩) hHeld ?_
      rotate_left
      · intro w hSw; (try dsimp only at hSw); go_simp; (try with_reducible rfl)
      try simp only [Act.put, List.setIfInBounds_toArray, List.set_cons_zero, List.set_cons_succ]
      refine wpAnyH_take (i := 8) (v := ?_) (by simp only [List.getElem?_toArray, List.getElem?_cons_succ, List.getElem?_cons_zero]; rfl) (by kernel_rfl) (by kernel_rfl) (by kernel_rfl) (by exact fun _ _ _ h => h) (Or.inl ⟨by rfl, ?_⟩) hHeld ?_
      rotate_left
      · intro w hSw; (try dsimp only at hSw); go_simp; (try with_reducible rfl)
      try simp only [Act.put, List.setIfInBounds_toArray, List.set_cons_zero, List.set_cons_succ]
      refine wpAnyH_take (i := 9) (v := ?_) (by simp only [List.getElem?_toArray, List.getElem?_cons_succ, List.getElem?_cons_zero]; rfl) (by kernel_rfl) (by kernel_rfl) (by kernel_rfl) (by exact fun _ _ _ h => h) (Or.inl ⟨by rfl, ?_⟩) hHeld ?_
      rotate_left
      · intro w hSw; (try dsimp only at hSw); go_simp; (try with_reducible rfl)
      try simp only [Act.put, List.setIfInBounds_toArray, List.set_cons_zero, List.set_cons_succ]
      refine wpAnyH_take (i := 10) (v := ?_) (by simp only [List.getElem?_toArray, List.getElem?_cons_succ, List.getElem?_cons_zero]; rfl) (by kernel_rfl) (by kernel_rfl) (by kernel_rfl) (by exact fun _ _ _ h => h) (Or.inl ⟨by rfl, ?_⟩) hHeld ?_
      rotate_left
      · intro w hSw; (try dsimp only at hSw); go_simp; (try with_reducible rfl)
      try simp only [Act.put, List.setIfInBounds_toArray, List.set_cons_zero, List.set_cons_succ]
      refine wpAnyH_ready (rs := [5]) (by kernel_rfl) (by simp) ?_
      refine AllReadyH.cons (by simp only [List.getElem?_toArray, List.getElem?_cons_succ, List.getElem?_cons_zero]; rfl) (fun kC hkC => ?_) AllReadyH.nil
      go_simp
      refine (rnode_lit 2 2 4 0 2 t l 0 _ HG0.out _).mono ?_; rintro e w2 ⟨rfl, hk2⟩; have hb2 := hbd.no hk2; have hm2 := hmd.keep hk2 (fun f => f) (fun _ _ f => f)
      (try go_wp2_with fail)
      refine hkC.out _ _ (hb2.two) (fun hHeld => ?_)
      clear hkC kC
      try simp only [Act.put, List.setIfInBounds_toArray, List.set_cons_zero, List.set_cons_succ]
      refine wpAnyH_ready (rs := [11]) (by kernel_rfl) (by simp) ?_
      refine AllReadyH.cons (by simp only [List.getElem?_toArray, List.getElem?_cons_succ, List.getElem?_cons_zero]; rfl) (fun kC hkC => ?_) AllReadyH.nil
      go_simp
      refine (rnode_lit 2 2 4 0 2 t l 1 _ HG1.out _).mono ?_; rintro e w3 ⟨rfl, hk3⟩; have hb3 := hb2.no hk3; have hm3 := hm2.keep hk3 (fun f => f) (fun _ _ f => f)
      (try go_wp2_with fail)
      refine hkC.out _ _ (hb3.two) (fun hHeld => ?_)
      clear hkC kC
      try simp only [Act.put, List.setIfInBounds_toArray, List.set_cons_zero, List.set_cons_succ]
      refine wpAnyH_take (i := 12) (v := ?_) (by simp only [List.getElem?_toArray, List.getElem?_cons_succ, List.getElem?_cons_zero]; rfl) (by kernel_rfl) (by kernel_rfl) (by kernel_rfl) (by exact fun _ _ _ h => h) (Or.inl ⟨by rfl, ?_⟩) hHeld ?_
      rotate_left
      · intro w hSw; (try dsimp only at hSw); go_simp; (try with_reducible rfl)
      try simp only [Act.put, List.setIfInBounds_toArray, List.set_cons_zero, List.set_cons_succ]
      refine wpAnyH_take (i := 13) (v := ?_) (by simp only [List.getElem?_toArray, List.getElem?_cons_succ, List.getElem?_cons_zero]; rfl) (by kernel_rfl) (by kernel_rfl) (by kernel_rfl) (by exact fun _ _ _ h => h) (Or.inl ⟨by rfl, ?_⟩) hHeld ?_
      rotate_left
      · intro w hSw; (try dsimp only at hSw); go_simp; (try with_reducible rfl)
      try simp only [Act.put, List.setIfInBounds_toArray, List.set_cons_zero, List.set_cons_succ]
      refine wpAnyH_done (by kernel_rfl) ?_ _
      go_wp2_with fail
      have hbe := hb3.no ((Keeps.refl NoS w3).drew)
      have hme := hm3.keep ((Keeps.refl NoS w3).drew) (fun f => f) (fun _ _ f => f)
      refine wp_region_held_drew (S := (fun w' => (w'.cell? ⟨B, 0, none⟩ = some (.int .i64 2) ∧ w'.cell? ⟨B, 1, none⟩ = some (.int .i64 2) ∧ w'.cell? ⟨B, 2, none⟩ = some (.int .i64 4) ∧ w'.cell? ⟨B, 3, none⟩ = some (.int .i64 0) ∧ w'.cell? ⟨B, 4, none⟩ = some (.int .i64 2)) ∧ (w'.cell? ⟨(B + 1), 0, none⟩ = some (.int .i64 t) ∧ w'.cell? ⟨(B + 1), 1, none⟩ = some (.int .i64 l) ∧ w'.cell? ⟨(B + 1), 2, none⟩ = some (.int .i64 4) ∧ w'.cell? ⟨(B + 1), 3, none⟩ = some (.bool r) ∧ w'.cell? ⟨(B + 1), 4, none⟩ = some (.int .i64 x)))) (by kernel_rfl) (hbe.two) (fun hHeld => ?_)
      refine wpAnyH_take (i := 0) (v := ?_) (by simp only [List.getElem?_toArray, List.getElem?_cons_succ, List.getElem?_cons_zero]; rfl) (by kernel_rfl) (by kernel_rfl) (by kernel_rfl) (by exact fun _ _ _ h => h) (Or.inl ⟨by rfl, ?_⟩) hHeld ?_
      rotate_left
      · intro w hSw; (try dsimp only at hSw); go_simp; (try with_reducible rfl)
      try simp only [Act.put, List.setIfInBounds_toArray, List.set_cons_zero, List.set_cons_succ]
      refine wpAnyH_take (i := 1) (v := ?_) (by simp only [List.getElem?_toArray, List.getElem?_cons_succ, List.getElem?_cons_zero]; rfl) (by kernel_rfl) (by kernel_rfl) (by kernel_rfl) (by exact fun _ _ _ h => h) (Or.inl ⟨by rfl, ?_⟩) hHeld ?_
      rotate_left
      · intro w hSw; (try dsimp only at hSw); go_simp; (try with_reducible rfl)
      try simp only [Act.put, List.setIfInBounds_toArray, List.set_cons_zero, List.set_cons_succ]
      refine wpAnyH_take (i := 2) (v := ?_) (by simp only [List.getElem?_toArray, List.getElem?_cons_succ, List.getElem?_cons_zero]; rfl) (by kernel_rfl) (by kernel_rfl) (by kernel_rfl) (by exact fun _ _ _ h => h) (Or.inl ⟨by rfl, ?_⟩) hHeld ?_
      rotate_left
      · intro w hSw; (try dsimp only at hSw); go_simp; (try with_reducible rfl)
      try simp only [Act.put, List.setIfInBounds_toArray, List.set_cons_zero, List.set_cons_succ]
      refine wpAnyH_take (i := 4) (v := ?_) (by simp only [List.getElem?_toArray, List.getElem?_cons_succ, List.getElem?_cons_zero]; rfl) (by kernel_rfl) (by kernel_rfl) (by kernel_rfl) (by exact fun _ _ _ h => h) (Or.inl ⟨by rfl, ?_⟩) hHeld ?_
      rotate_left
      · intro w hSw; (try dsimp only at hSw); go_simp; (try with_reducible rfl)
      try simp only [Act.put, List.setIfInBounds_toArray, List.set_cons_zero, List.set_cons_succ]
      refine wpAnyH_take (i := 5) (v := ?_) (by simp only [List.getElem?_toArray, List.getElem?_cons_succ, List.getElem?_cons_zero]; rfl) (by kernel_rfl) (by kernel_rfl) (by kernel_rfl) (by exact fun _ _ _ h => h) (Or.inl ⟨by rfl, ?_⟩) hHeld ?_
      rotate_left
      · intro w hSw; (try dsimp only at hSw); go_simp; (try with_reducible rfl)
      try simp only [Act.put, List.setIfInBounds_toArray, List.set_cons_zero, List.set_cons_succ]
      refine wpAnyH_take (i := 6) (v := ?_) (by simp only [List.getElem?_toArray, List.getElem?_cons_succ, List.getElem?_cons_zero]; rfl) (by kernel_rfl) (by kernel_rfl) (by kernel_rfl) (by exact fun _ _ _ h => h) (Or.inl ⟨by rfl, ?_⟩) hHeld ?_
      rotate_left
      · intro w hSw; (try dsimp only at hSw); go_simp; (try with_reducible rfl)
      try simp only [Act.put, List.setIfInBounds_toArray, List.set_cons_zero, List.set_cons_succ]
      refine wpAnyH_take (i := 7) (v := ?_) (by simp only [List.getElem?_toArray, List.getElem?_cons_succ, List.getElem?_cons_zero]; rfl) (by kernel_rfl) (by kernel_rfl) (by kernel_rfl) (by exact fun _ _ _ h => h) (Or.inl ⟨by rfl, ?_⟩) hHeld ?_
      rotate_left
      · intro w hSw; (try dsimp only at hSw); go_simp; (try with_reducible rfl)
      try simp only [Act.put, List.setIfInBounds_toArray, List.set_cons_zero, List.set_cons_succ]
      refine wpAnyH_take (i := 8) (v := ?_) (by simp only [List.getElem?_toArray, List.getElem?_cons_succ, List.getElem?_cons_zero]; rfl) (by kernel_rfl) (by kernel_rfl) (by kernel_rfl) (by exact fun _ _ _ h => h) (Or.inl ⟨by rfl, ?_⟩) hHeld ?_
      rotate_left
      · intro w hSw; (try dsimp only at hSw); go_simp; (try with_reducible rfl)
      try simp only [Act.put, List.setIfInBounds_toArray, List.set_cons_zero, List.set_cons_succ]
      refine wpAnyH_ready (rs := [3]) (by kernel_rfl) (by simp) ?_
      refine AllReadyH.cons (by simp only [List.getElem?_toArray, List.getElem?_cons_succ, List.getElem?_cons_zero]; rfl) (fun kC hkC => ?_) AllReadyH.nil
      go_simp
      refine (rlock_lit 2 2 4 0 2 l 0 _ HTL.out _).mono ?_; rintro e w5 ⟨rfl, hk5⟩; have hb5 := hbe.no hk5; have hm5 := hme.keep hk5 (fun f => f) (fun _ _ f => f)
      (try go_wp2_with fail)
      refine hkC.out _ _ (hb5.two) (fun hHeld => ?_)
      clear hkC kC
      try simp only [Act.put, List.setIfInBounds_toArray, List.set_cons_zero, List.set_cons_succ]
      refine wpAnyH_ready (rs := [9]) (by kernel_rfl) (by simp) ?_
      refine AllReadyH.cons (by simp only [List.getElem?_toArray, List.getElem?_cons_succ, List.getElem?_cons_zero]; rfl) (fun kC hkC => ?_) AllReadyH.nil
      go_simp
      refine (HID.out _).mono ?_; rintro e w6 ⟨rfl, hk6⟩; have hb6 := hb5.no hk6; have hm6 := hm5.keep hk6 (fun f => f) (fun _ _ f => f)
      (try go_wp2_with fail)
      refine hkC.out _ _ (hb6.two) (fun hHeld => ?_)
      clear hkC kC
      try simp only [Act.put, List.setIfInBounds_toArray, List.set_cons_zero, List.set_cons_succ]
      refine wpAnyH_take (i := 10) (v := ?_) (by simp only [List.getElem?_toArray, List.getElem?_cons_succ, List.getElem?_cons_zero]; rfl) (by kernel_rfl) (by kernel_rfl) (by kernel_rfl) (by exact fun _ _ _ h => h) (Or.inl ⟨by rfl, ?_⟩) hHeld ?_
      rotate_left
      · intro w hSw; (try dsimp only at hSw); go_simp; (try with_reducible rfl)
      try simp only [Act.put, List.setIfInBounds_toArray, List.set_cons_zero, List.set_cons_succ]
      refine wpAnyH_take (i := 11) (v := ?_) (by simp only [List.getElem?_toArray, List.getElem?_cons_succ, List.getElem?_cons_zero]; rfl) (by kernel_rfl) (by kernel_rfl) (by kernel_rfl) (by exact fun _ _ _ h => h) (Or.inl ⟨by rfl, ?_⟩) hHeld ?_
      rotate_left
      · intro w hSw; (try dsimp only at hSw); go_simp; (try with_reducible rfl)
      try simp only [Act.put, List.setIfInBounds_toArray, List.set_cons_zero, List.set_cons_succ]
      refine wpAnyH_done (by kernel_rfl) ?_ _
      have hk06 := (((((((HK.out.trans hk1).trans (Keeps.refl NoS w1).drew).trans hk2).trans hk3).trans (Keeps.refl NoS w3).drew).trans hk5).trans hk6)
      have HB6 := Lib.hid hb6; have HM6 := Lib.hid hm6; have HK6 := Lib.hid hk06
      clear hb6 hm6 hk06 hb5 hm5 hbe hme hb3 hm3 hb2 hm2 hbd hmd hb1 hm1 m0 m1 m2 m3 m4 c0 c1 c2 c3 c4 r0 r1 r2 r3 r4 f0 f1 f2 f3 f4 g0 g1 g2 g3 g4 z1 z2
      obtain ⟨⟨m0, m1, m2, m3, m4⟩, ⟨c0, c1, c2, c3, c4⟩, ⟨r0, r1, r2, r3, r4⟩, ⟨f0, f1, f2, f3, f4⟩, ⟨g0, g1, g2, g3, g4⟩, z1, z2⟩ := HB6.out.facts
      go_wp2_with (go_at_call 67; refine (rnode8_any l 1 x hl (by decide) _).mono ?_; rw [HND.out]; rintro e w7 ⟨rfl, hk7⟩; have hb7 := HB6.out.no hk7; have hm7 := HM6.out.keep hk7 (fun f => f) (fun _ _ f => f); obtain ⟨⟨m0, m1, m2, m3, m4⟩, ⟨c0, c1, c2, c3, c4⟩, ⟨r0, r1, r2, r3, r4⟩, ⟨f0, f1, f2, f3, f4⟩, ⟨g0, g1, g2, g3, g4⟩, z1, z2⟩ := hb7.facts; have HB7 := Lib.hid hb7; have HM7 := Lib.hid hm7; clear hb7 hm7)
      have hm := HM7.out
      have hkk : Keeps (own2m a v) w w7 := (HK6.out.trans hk7).no
      refine bodyPost_ret (v := .agg #[.int .i64 t, .int .i64 l, .int .i64 4, .bool r, .int .i64 x]) (by simp [results, Try.results34, go_sem, *]) rfl ⟨rfl, ?_, ?_⟩
      · repeat (first | (with_reducible exact hm) | refine MemT.set (B := B) ?_ ha HV.out _ (by show B ≤ _; dsimp only; omega) _)
      · repeat (first | (with_reducible exact hkk) | refine kset HB.out ?_ _ (by show B ≤ _; dsimp only; omega) _)
    | some u =>
      have hu4 := (thN_lt hth).1
      have hnd : ndI l x 1 = (ndA u l 1 : Nat) := by unfold ndI; rw [hth]
      rw [show mTake M t l 4 r x = (M.store (ndA u l 1) y, ⟨t, l, 5, r, 0⟩) by (unfold mTake; rw [if_neg (show ¬ (4 : Int) = 0 by decide), if_neg (show ¬ (4 : Int) = 1 by decide), if_neg (show ¬ (4 : Int) = 2 by decide), if_neg (show ¬ (4 : Int) = 3 by decide), if_pos rfl, hth, HYD.out])]
      have HND := Lib.hid hnd
      have HNU := Lib.hid (show ndA u l 1 < M.L.length by rw [HL.out]; exact ndA_lt hu4 hl (by decide))
      clear hnd hth
      generalize ndA u l 1 = n1 at *
      clear hu4
      have HN1I := Lib.hid (show (0 : Int) ≤ (n1 : Int) by omega)
      unfold handV
      dsimp only
      go_enter Try.func34, Try.ntmps34
      go_wp2_with fail
      rw [HB.out]
      refine (rmay8_any t l 4 r x _).mono ?_
      rw [HOK.out]
      rintro e w1 ⟨rfl, hk1⟩
      have hb1 := HBX.out.no hk1
      have hm1 := HA2.out.keep hk1 (fun f => f) (fun _ _ f => f)
      obtain ⟨⟨m0, m1, m2, m3, m4⟩, ⟨c0, c1, c2, c3, c4⟩, ⟨r0, r1, r2, r3, r4⟩, ⟨f0, f1, f2, f3, f4⟩, ⟨g0, g1, g2, g3, g4⟩, z1, z2⟩ := hb1.facts
      go_wp2_with fail
      have hbd := hb1.no ((Keeps.refl NoS w1).drew)
      have hmd := hm1.keep ((Keeps.refl NoS w1).drew) (fun f => f) (fun _ _ f => f)
      refine wp_region_held_drew (S := (fun w' => (w'.cell? ⟨B, 0, none⟩ = some (.int .i64 2) ∧ w'.cell? ⟨B, 1, none⟩ = some (.int .i64 2) ∧ w'.cell? ⟨B, 2, none⟩ = some (.int .i64 4) ∧ w'.cell? ⟨B, 3, none⟩ = some (.int .i64 0) ∧ w'.cell? ⟨B, 4, none⟩ = some (.int .i64 2)) ∧ (w'.cell? ⟨(B + 1), 0, none⟩ = some (.int .i64 t) ∧ w'.cell? ⟨(B + 1), 1, none⟩ = some (.int .i64 l) ∧ w'.cell? ⟨(B + 1), 2, none⟩ = some (.int .i64 4) ∧ w'.cell? ⟨(B + 1), 3, none⟩ = some (.bool r) ∧ w'.cell? ⟨(B + 1), 4, none⟩ = some (.int .i64 x)))) (by kernel_rfl) (hbd.two) (fun hHeld => ?_)
      refine wpAnyH_take (i := 0) (v := ?_) (by simp only [List.getElem?_toArray, List.getElem?_cons_succ, List.getElem?_cons_zero]; rfl) (by kernel_rfl) (by kernel_rfl) (by kernel_rfl) (by exact fun _ _ _ h => h) (Or.inl ⟨by rfl, ?_⟩) hHeld ?_
      rotate_left
      · intro w hSw; (try dsimp only at hSw); go_simp; (try with_reducible rfl)
      try simp only [Act.put, List.setIfInBounds_toArray, List.set_cons_zero, List.set_cons_succ]
      refine wpAnyH_take (i := 1) (v := ?_) (by simp only [List.getElem?_toArray, List.getElem?_cons_succ, List.getElem?_cons_zero]; rfl) (by kernel_rfl) (by kernel_rfl) (by kernel_rfl) (by exact fun _ _ _ h => h) (Or.inl ⟨by rfl, ?_⟩) hHeld ?_
      rotate_left
      · intro w hSw; (try dsimp only at hSw); go_simp; (try with_reducible rfl)
      try simp only [Act.put, List.setIfInBounds_toArray, List.set_cons_zero, List.set_cons_succ]
      refine wpAnyH_take (i := 2) (v := ?_) (by simp only [List.getElem?_toArray, List.getElem?_cons_succ, List.getElem?_cons_zero]; rfl) (by kernel_rfl) (by kernel_rfl) (by kernel_rfl) (by exact fun _ _ _ h => h) (Or.inl ⟨by rfl, ?_⟩) hHeld ?_
      rotate_left
      · intro w hSw; (try dsimp only at hSw); go_simp; (try with_reducible rfl)
      try simp only [Act.put, List.setIfInBounds_toArray, List.set_cons_zero, List.set_cons_succ]
      refine wpAnyH_take (i := 3) (v := ?_) (by simp only [List.getElem?_toArray, List.getElem?_cons_succ, List.getElem?_cons_zero]; rfl) (by kernel_rfl) (by kernel_rfl) (by kernel_rfl) (by exact fun _ _ _ h => h) (Or.inl ⟨by rfl, ?_⟩) hHeld ?_
      rotate_left
      · intro w hSw; (try dsimp only at hSw); go_simp; (try with_reducible rfl)
      try simp only [Act.put, List.setIfInBounds_toArray, List.set_cons_zero, List.set_cons_succ]
      refine wpAnyH_take (i := 4) (v := ?_) (by simp only [List.getElem?_toArray, List.getElem?_cons_succ, List.getElem?_cons_zero]; rfl) (by kernel_rfl) (by kernel_rfl) (by kernel_rfl) (by exact fun _ _ _ h => h) (Or.inl ⟨by rfl, ?_⟩) hHeld ?_
      rotate_left
      · intro w hSw; (try dsimp only at hSw); go_simp; (try with_reducible rfl)
      try simp only [Act.put, List.setIfInBounds_toArray, List.set_cons_zero, List.set_cons_succ]
      refine wpAnyH_take (i := 6) (v := ?_) (by simp only [List.getElem?_toArray, List.getElem?_cons_succ, List.getElem?_cons_zero]; rfl) (by kernel_rfl) (by kernel_rfl) (by kernel_rfl) (by exact fun _ _ _ h => h) (Or.inl ⟨by rfl, ?_⟩) hHeld ?_
      rotate_left
      · intro w hSw; (try dsimp only at hSw); go_simp; (try with_reducible rfl)
      try simp only [Act.put, List.setIfInBounds_toArray, List.set_cons_zero, List.set_cons_succ]
      refine wpAnyH_take (i := 7) (v := ?_) (by simp only [List.getElem?_toArray, List.getElem?_cons_succ, List.getElem?_cons_zero]; rfl) (by kernel_rfl) (by kernel_rfl) (by kernel_rfl) (by exact fun _ _ _ h => h) (Or.inl ⟨by rfl, ?_⟩) hHeld ?_
      rotate_left
      · intro w hSw; (try dsimp only at hSw); go_simp; (try with_reducible rfl)
      try simp only [Act.put, List.setIfInBounds_toArray, List.set_cons_zero, List.set_cons_succ]
      refine wpAnyH_take (i := 8) (v := ?_) (by simp only [List.getElem?_toArray, List.getElem?_cons_succ, List.getElem?_cons_zero]; rfl) (by kernel_rfl) (by kernel_rfl) (by kernel_rfl) (by exact fun _ _ _ h => h) (Or.inl ⟨by rfl, ?_⟩) hHeld ?_
      rotate_left
      · intro w hSw; (try dsimp only at hSw); go_simp; (try with_reducible rfl)
      try simp only [Act.put, List.setIfInBounds_toArray, List.set_cons_zero, List.set_cons_succ]
      refine wpAnyH_take (i := 9) (v := ?_) (by simp only [List.getElem?_toArray, List.getElem?_cons_succ, List.getElem?_cons_zero]; rfl) (by kernel_rfl) (by kernel_rfl) (by kernel_rfl) (by exact fun _ _ _ h => h) (Or.inl ⟨by rfl, ?_⟩) hHeld ?_
      rotate_left
      · intro w hSw; (try dsimp only at hSw); go_simp; (try with_reducible rfl)
      try simp only [Act.put, List.setIfInBounds_toArray, List.set_cons_zero, List.set_cons_succ]
      refine wpAnyH_take (i := 10) (v := ?_) (by simp only [List.getElem?_toArray, List.getElem?_cons_succ, List.getElem?_cons_zero]; rfl) (by kernel_rfl) (by kernel_rfl) (by kernel_rfl) (by exact fun _ _ _ h => h) (Or.inl ⟨by rfl, ?_⟩) hHeld ?_
      rotate_left
      · intro w hSw; (try dsimp only at hSw); go_simp; (try with_reducible rfl)
      try simp only [Act.put, List.setIfInBounds_toArray, List.set_cons_zero, List.set_cons_succ]
      refine wpAnyH_ready (rs := [5]) (by kernel_rfl) (by simp) ?_
      refine AllReadyH.cons (by simp only [List.getElem?_toArray, List.getElem?_cons_succ, List.getElem?_cons_zero]; rfl) (fun kC hkC => ?_) AllReadyH.nil
      go_simp
      refine (rnode_lit 2 2 4 0 2 t l 0 _ HG0.out _).mono ?_; rintro e w2 ⟨rfl, hk2⟩; have hb2 := hbd.no hk2; have hm2 := hmd.keep hk2 (fun f => f) (fun _ _ f => f)
      (try go_wp2_with fail)
      refine hkC.out _ _ (hb2.two) (fun hHeld => ?_)
      clear hkC kC
      try simp only [Act.put, List.setIfInBounds_toArray, List.set_cons_zero, List.set_cons_succ]
      refine wpAnyH_ready (rs := [11]) (by kernel_rfl) (by simp) ?_
      refine AllReadyH.cons (by simp only [List.getElem?_toArray, List.getElem?_cons_succ, List.getElem?_cons_zero]; rfl) (fun kC hkC => ?_) AllReadyH.nil
      go_simp
      refine (rnode_lit 2 2 4 0 2 t l 1 _ HG1.out _).mono ?_; rintro e w3 ⟨rfl, hk3⟩; have hb3 := hb2.no hk3; have hm3 := hm2.keep hk3 (fun f => f) (fun _ _ f => f)
      (try go_wp2_with fail)
      refine hkC.out _ _ (hb3.two) (fun hHeld => ?_)
      clear hkC kC
      try simp only [Act.put, List.setIfInBounds_toArray, List.set_cons_zero, List.set_cons_succ]
      refine wpAnyH_take (i := 12) (v := ?_) (by simp only [List.getElem?_toArray, List.getElem?_cons_succ, List.getElem?_cons_zero]; rfl) (by kernel_rfl) (by kernel_rfl) (by kernel_rfl) (by exact fun _ _ _ h => h) (Or.inl ⟨by rfl, ?_⟩) hHeld ?_
      rotate_left
      · intro w hSw; (try dsimp only at hSw); go_simp; (try with_reducible rfl)
      try simp only [Act.put, List.setIfInBounds_toArray, List.set_cons_zero, List.set_cons_succ]
      refine wpAnyH_take (i := 13) (v := ?_) (by simp only [List.getElem?_toArray, List.getElem?_cons_succ, List.getElem?_cons_zero]; rfl) (by kernel_rfl) (by kernel_rfl) (by kernel_rfl) (by exact fun _ _ _ h => h) (Or.inl ⟨by rfl, ?_⟩) hHeld ?_
      rotate_left
      · intro w hSw; (try dsimp only at hSw); go_simp; (try with_reducible rfl)
      try simp only [Act.put, List.setIfInBounds_toArray, List.set_cons_zero, List.set_cons_succ]
      refine wpAnyH_done (by kernel_rfl) ?_ _
      go_wp2_with fail
      have hbe := hb3.no ((Keeps.refl NoS w3).drew)
      have hme := hm3.keep ((Keeps.refl NoS w3).drew) (fun f => f) (fun _ _ f => f)
      refine wp_region_held_drew (S := (fun w' => (w'.cell? ⟨B, 0, none⟩ = some (.int .i64 2) ∧ w'.cell? ⟨B, 1, none⟩ = some (.int .i64 2) ∧ w'.cell? ⟨B, 2, none⟩ = some (.int .i64 4) ∧ w'.cell? ⟨B, 3, none⟩ = some (.int .i64 0) ∧ w'.cell? ⟨B, 4, none⟩ = some (.int .i64 2)) ∧ (w'.cell? ⟨(B + 1), 0, none⟩ = some (.int .i64 t) ∧ w'.cell? ⟨(B + 1), 1, none⟩ = some (.int .i64 l) ∧ w'.cell? ⟨(B + 1), 2, none⟩ = some (.int .i64 4) ∧ w'.cell? ⟨(B + 1), 3, none⟩ = some (.bool r) ∧ w'.cell? ⟨(B + 1), 4, none⟩ = some (.int .i64 x)))) (by kernel_rfl) (hbe.two) (fun hHeld => ?_)
      refine wpAnyH_take (i := 0) (v := ?_) (by simp only [List.getElem?_toArray, List.getElem?_cons_succ, List.getElem?_cons_zero]; rfl) (by kernel_rfl) (by kernel_rfl) (by kernel_rfl) (by exact fun _ _ _ h => h) (Or.inl ⟨by rfl, ?_⟩) hHeld ?_
      rotate_left
      · intro w hSw; (try dsimp only at hSw); go_simp; (try with_reducible rfl)
      try simp only [Act.put, List.setIfInBounds_toArray, List.set_cons_zero, List.set_cons_succ]
      refine wpAnyH_take (i := 1) (v := ?_) (by simp only [List.getElem?_toArray, List.getElem?_cons_succ, List.getElem?_cons_zero]; rfl) (by kernel_rfl) (by kernel_rfl) (by kernel_rfl) (by exact fun _ _ _ h => h) (Or.inl ⟨by rfl, ?_⟩) hHeld ?_
      rotate_left
      · intro w hSw; (try dsimp only at hSw); go_simp; (try with_reducible rfl)
      try simp only [Act.put, List.setIfInBounds_toArray, List.set_cons_zero, List.set_cons_succ]
      refine wpAnyH_take (i := 2) (v := ?_) (by simp only [List.getElem?_toArray, List.getElem?_cons_succ, List.getElem?_cons_zero]; rfl) (by kernel_rfl) (by kernel_rfl) (by kernel_rfl) (by exact fun _ _ _ h => h) (Or.inl ⟨by rfl, ?_⟩) hHeld ?_
      rotate_left
      · intro w hSw; (try dsimp only at hSw); go_simp; (try with_reducible rfl)
      try simp only [Act.put, List.setIfInBounds_toArray, List.set_cons_zero, List.set_cons_succ]
      refine wpAnyH_take (i := 4) (v := ?_) (by simp only [List.getElem?_toArray, List.getElem?_cons_succ, List.getElem?_cons_zero]; rfl) (by kernel_rfl) (by kernel_rfl) (by kernel_rfl) (by exact fun _ _ _ h => h) (Or.inl ⟨by rfl, ?_⟩) hHeld ?_
      rotate_left
      · intro w hSw; (try dsimp only at hSw); go_simp; (try with_reducible rfl)
      try simp only [Act.put, List.setIfInBounds_toArray, List.set_cons_zero, List.set_cons_succ]
      refine wpAnyH_take (i := 5) (v := ?_) (by simp only [List.getElem?_toArray, List.getElem?_cons_succ, List.getElem?_cons_zero]; rfl) (by kernel_rfl) (by kernel_rfl) (by kernel_rfl) (by exact fun _ _ _ h => h) (Or.inl ⟨by rfl, ?_⟩) hHeld ?_
      rotate_left
      · intro w hSw; (try dsimp only at hSw); go_simp; (try with_reducible rfl)
      try simp only [Act.put, List.setIfInBounds_toArray, List.set_cons_zero, List.set_cons_succ]
      refine wpAnyH_take (i := 6) (v := ?_) (by simp only [List.getElem?_toArray, List.getElem?_cons_succ, List.getElem?_cons_zero]; rfl) (by kernel_rfl) (by kernel_rfl) (by kernel_rfl) (by exact fun _ _ _ h => h) (Or.inl ⟨by rfl, ?_⟩) hHeld ?_
      rotate_left
      · intro w hSw; (try dsimp only at hSw); go_simp; (try with_reducible rfl)
      try simp only [Act.put, List.setIfInBounds_toArray, List.set_cons_zero, List.set_cons_succ]
      refine wpAnyH_take (i := 7) (v := ?_) (by simp only [List.getElem?_toArray, List.getElem?_cons_succ, List.getElem?_cons_zero]; rfl) (by kernel_rfl) (by kernel_rfl) (by kernel_rfl) (by exact fun _ _ _ h => h) (Or.inl ⟨by rfl, ?_⟩) hHeld ?_
      rotate_left
      · intro w hSw; (try dsimp only at hSw); go_simp; (try with_reducible rfl)
      try simp only [Act.put, List.setIfInBounds_toArray, List.set_cons_zero, List.set_cons_succ]
      refine wpAnyH_take (i := 8) (v := ?_) (by simp only [List.getElem?_toArray, List.getElem?_cons_succ, List.getElem?_cons_zero]; rfl) (by kernel_rfl) (by kernel_rfl) (by kernel_rfl) (by exact fun _ _ _ h => h) (Or.inl ⟨by rfl, ?_⟩) hHeld ?_
      rotate_left
      · intro w hSw; (try dsimp only at hSw); go_simp; (try with_reducible rfl)
      try simp only [Act.put, List.setIfInBounds_toArray, List.set_cons_zero, List.set_cons_succ]
      refine wpAnyH_ready (rs := [3]) (by kernel_rfl) (by simp) ?_
      refine AllReadyH.cons (by simp only [List.getElem?_toArray, List.getElem?_cons_succ, List.getElem?_cons_zero]; rfl) (fun kC hkC => ?_) AllReadyH.nil
      go_simp
      refine (rlock_lit 2 2 4 0 2 l 0 _ HTL.out _).mono ?_; rintro e w5 ⟨rfl, hk5⟩; have hb5 := hbe.no hk5; have hm5 := hme.keep hk5 (fun f => f) (fun _ _ f => f)
      (try go_wp2_with fail)
      refine hkC.out _ _ (hb5.two) (fun hHeld => ?_)
      clear hkC kC
      try simp only [Act.put, List.setIfInBounds_toArray, List.set_cons_zero, List.set_cons_succ]
      refine wpAnyH_ready (rs := [9]) (by kernel_rfl) (by simp) ?_
      refine AllReadyH.cons (by simp only [List.getElem?_toArray, List.getElem?_cons_succ, List.getElem?_cons_zero]; rfl) (fun kC hkC => ?_) AllReadyH.nil
      go_simp
      refine (HID.out _).mono ?_; rintro e w6 ⟨rfl, hk6⟩; have hb6 := hb5.no hk6; have hm6 := hm5.keep hk6 (fun f => f) (fun _ _ f => f)
      (try go_wp2_with fail)
      refine hkC.out _ _ (hb6.two) (fun hHeld => ?_)
      clear hkC kC
      try simp only [Act.put, List.setIfInBounds_toArray, List.set_cons_zero, List.set_cons_succ]
      refine wpAnyH_take (i := 10) (v := ?_) (by simp only [List.getElem?_toArray, List.getElem?_cons_succ, List.getElem?_cons_zero]; rfl) (by kernel_rfl) (by kernel_rfl) (by kernel_rfl) (by exact fun _ _ _ h => h) (Or.inl ⟨by rfl, ?_⟩) hHeld ?_
      rotate_left
      · intro w hSw; (try dsimp only at hSw); go_simp; (try with_reducible rfl)
      try simp only [Act.put, List.setIfInBounds_toArray, List.set_cons_zero, List.set_cons_succ]
      refine wpAnyH_take (i := 11) (v := ?_) (by simp only [List.getElem?_toArray, List.getElem?_cons_succ, List.getElem?_cons_zero]; rfl) (by kernel_rfl) (by kernel_rfl) (by kernel_rfl) (by exact fun _ _ _ h => h) (Or.inl ⟨by rfl, ?_⟩) hHeld ?_
      rotate_left
      · intro w hSw; (try dsimp only at hSw); go_simp; (try with_reducible rfl)
      try simp only [Act.put, List.setIfInBounds_toArray, List.set_cons_zero, List.set_cons_succ]
      refine wpAnyH_done (by kernel_rfl) ?_ _
      have hk06 := (((((((HK.out.trans hk1).trans (Keeps.refl NoS w1).drew).trans hk2).trans hk3).trans (Keeps.refl NoS w3).drew).trans hk5).trans hk6)
      have HB6 := Lib.hid hb6; have HM6 := Lib.hid hm6; have HK6 := Lib.hid hk06
      clear hb6 hm6 hk06 hb5 hm5 hbe hme hb3 hm3 hb2 hm2 hbd hmd hb1 hm1 m0 m1 m2 m3 m4 c0 c1 c2 c3 c4 r0 r1 r2 r3 r4 f0 f1 f2 f3 f4 g0 g1 g2 g3 g4 z1 z2
      obtain ⟨⟨m0, m1, m2, m3, m4⟩, ⟨c0, c1, c2, c3, c4⟩, ⟨r0, r1, r2, r3, r4⟩, ⟨f0, f1, f2, f3, f4⟩, ⟨g0, g1, g2, g3, g4⟩, z1, z2⟩ := HB6.out.facts
      have hn1 := HN1I.out
      go_wp2_with (first
        | (go_at_call 67; refine (rnode8_any l 1 x hl (by decide) _).mono ?_; rw [HND.out]; rintro e w7 ⟨rfl, hk7⟩; have hb7 := HB6.out.no hk7; have hm7 := HM6.out.keep hk7 (fun f => f) (fun _ _ f => f); obtain ⟨⟨m0, m1, m2, m3, m4⟩, ⟨c0, c1, c2, c3, c4⟩, ⟨r0, r1, r2, r3, r4⟩, ⟨f0, f1, f2, f3, f4⟩, ⟨g0, g1, g2, g3, g4⟩, z1, z2⟩ := hb7.facts; have HB7 := Lib.hid hb7; have HM7 := Lib.hid hm7; clear hb7 hm7)
        | (go_at_call 68; refine (rstore_ok a v M n1 y _ HM7.out HNU.out).mono ?_; rintro e w4 ⟨rfl, hm, hk4⟩; have hb4 := HB7.out.own hk4 ha HV.out; obtain ⟨⟨m0, m1, m2, m3, m4⟩, ⟨c0, c1, c2, c3, c4⟩, ⟨r0, r1, r2, r3, r4⟩, ⟨f0, f1, f2, f3, f4⟩, ⟨g0, g1, g2, g3, g4⟩, z1, z2⟩ := hb4.facts; have hkk : Keeps (own2m a v) w w4 := (HK6.out.trans hk7).no.trans hk4; clear hb4))
      refine bodyPost_ret (v := .agg #[.int .i64 t, .int .i64 l, .int .i64 5, .bool r, .int .i64 0]) (by simp [results, Try.results34, go_sem, *]) rfl ⟨rfl, ?_, ?_⟩
      · repeat (first | (with_reducible exact hm) | refine MemT.set (B := B) ?_ ha HV.out _ (by show B ≤ _; dsimp only; omega) _)
      · repeat (first | (with_reducible exact hkk) | refine kset HB.out ?_ _ (by show B ≤ _; dsimp only; omega) _)
  by_cases s5 : s = 5
  · subst s5
    obtain ⟨c, hc⟩ : ∃ c, M.word (ndA t l 0) = c := ⟨_, rfl⟩
    have HC := Lib.hid hc
    by_cases hc0 : c = 0
    · rw [show mTake M t l 5 r x = (M.load (ndA t l 0), ⟨t, l, 9, r, x⟩) by (unfold mTake; rw [if_neg (show ¬ (5 : Int) = 0 by decide), if_neg (show ¬ (5 : Int) = 1 by decide), if_neg (show ¬ (5 : Int) = 2 by decide), if_neg (show ¬ (5 : Int) = 3 by decide), if_neg (show ¬ (5 : Int) = 4 by decide), if_pos rfl, hc, if_pos hc0])]
      have hc1 : (c == 0) = true := by simpa using hc0
      clear hc hc0
      unfold handV
      dsimp only
      go_enter Try.func34, Try.ntmps34
      go_wp2_with fail
      rw [HB.out]
      refine (rmay8_any t l 5 r x _).mono ?_
      rw [HOK.out]
      rintro e w1 ⟨rfl, hk1⟩
      have hb1 := HBX.out.no hk1
      have hm1 := HA2.out.keep hk1 (fun f => f) (fun _ _ f => f)
      obtain ⟨⟨m0, m1, m2, m3, m4⟩, ⟨c0, c1, c2, c3, c4⟩, ⟨r0, r1, r2, r3, r4⟩, ⟨f0, f1, f2, f3, f4⟩, ⟨g0, g1, g2, g3, g4⟩, z1, z2⟩ := hb1.facts
      go_wp2_with fail
      have hbd := hb1.no ((Keeps.refl NoS w1).drew)
      have hmd := hm1.keep ((Keeps.refl NoS w1).drew) (fun f => f) (fun _ _ f => f)
      refine wp_region_held_drew (S := (fun w' => (w'.cell? ⟨B, 0, none⟩ = some (.int .i64 2) ∧ w'.cell? ⟨B, 1, none⟩ = some (.int .i64 2) ∧ w'.cell? ⟨B, 2, none⟩ = some (.int .i64 4) ∧ w'.cell? ⟨B, 3, none⟩ = some (.int .i64 0) ∧ w'.cell? ⟨B, 4, none⟩ = some (.int .i64 2)) ∧ (w'.cell? ⟨(B + 1), 0, none⟩ = some (.int .i64 t) ∧ w'.cell? ⟨(B + 1), 1, none⟩ = some (.int .i64 l) ∧ w'.cell? ⟨(B + 1), 2, none⟩ = some (.int .i64 5) ∧ w'.cell? ⟨(B + 1), 3, none⟩ = some (.bool r) ∧ w'.cell? ⟨(B + 1), 4, none⟩ = some (.int .i64 x)))) (by kernel_rfl) (hbd.two) (fun hHeld => ?_)
      refine wpAnyH_take (i := 0) (v := ?_) (by simp only [List.getElem?_toArray, List.getElem?_cons_succ, List.getElem?_cons_zero]; rfl) (by kernel_rfl) (by kernel_rfl) (by kernel_rfl) (by exact fun _ _ _ h => h) (Or.inl ⟨by rfl, ?_⟩) hHeld ?_
      rotate_left
      · intro w hSw; (try dsimp only at hSw); go_simp; (try with_reducible rfl)
      try simp only [Act.put, List.setIfInBounds_toArray, List.set_cons_zero, List.set_cons_succ]
      refine wpAnyH_take (i := 1) (v := ?_) (by simp only [List.getElem?_toArray, List.getElem?_cons_succ, List.getElem?_cons_zero]; rfl) (by kernel_rfl) (by kernel_rfl) (by kernel_rfl) (by exact fun _ _ _ h => h) (Or.inl ⟨by rfl, ?_⟩) hHeld ?_
      rotate_left
      · intro w hSw; (try dsimp only at hSw); go_simp; (try with_reducible rfl)
      try simp only [Act.put, List.setIfInBounds_toArray, List.set_cons_zero, List.set_cons_succ]
      refine wpAnyH_take (i := 2) (v := ?_) (by simp only [List.getElem?_toArray, List.getElem?_cons_succ, List.getElem?_cons_zero]; rfl) (by kernel_rfl) (by kernel_rfl) (by kernel_rfl) (by exact fun _ _ _ h => h) (Or.inl ⟨by rfl, ?_⟩) hHeld ?_
      rotate_left
      · intro w hSw; (try dsimp only at hSw); go_simp; (try with_reducible rfl)
      try simp only [Act.put, List.setIfInBounds_toArray, List.set_cons_zero, List.set_cons_succ]
      refine wpAnyH_take (i := 3) (v := ?_) (by simp only [List.getElem?_toArray, List.getElem?_cons_succ, List.getElem?_cons_zero]; rfl) (by kernel_rfl) (by kernel_rfl) (by kernel_rfl) (by exact fun _ _ _ h => h) (Or.inl ⟨by rfl, ?_⟩) hHeld ?_
      rotate_left
      · intro w hSw; (try dsimp only at hSw); go_simp; (try with_reducible rfl)
      try simp only [Act.put, List.setIfInBounds_toArray, List.set_cons_zero, List.set_cons_succ]
      refine wpAnyH_take (i := 4) (v := ?_) (by simp only [List.getElem?_toArray, List.getElem?_cons_succ, List.getElem?_cons_zero]; rfl) (by kernel_rfl) (by kernel_rfl) (by kernel_rfl) (by exact fun _ _ _ h => h) (Or.inl ⟨by rfl, ?_⟩) hHeld ?_
      rotate_left
      · intro w hSw; (try dsimp only at hSw); go_simp; (try with_reducible rfl)
      try simp only [Act.put, List.setIfInBounds_toArray, List.set_cons_zero, List.set_cons_succ]
      refine wpAnyH_take (i := 6) (v := ?_) (by simp only [List.getElem?_toArray, List.getElem?_cons_succ, List.getElem?_cons_zero]; rfl) (by kernel_rfl) (by kernel_rfl) (by kernel_rfl) (by exact fun _ _ _ h => h) (Or.inl ⟨by rfl, ?_⟩) hHeld ?_
      rotate_left
      · intro w hSw; (try dsimp only at hSw); go_simp; (try with_reducible rfl)
      try simp only [Act.put, List.setIfInBounds_toArray, List.set_cons_zero, List.set_cons_succ]
      refine wpAnyH_take (i := 7) (v := ?_) (by simp only [List.getElem?_toArray, List.getElem?_cons_succ, List.getElem?_cons_zero]; rfl) (by kernel_rfl) (by kernel_rfl) (by kernel_rfl) (by exact fun _ _ _ h => h) (Or.inl ⟨by rfl, ?_⟩) hHeld ?_
      rotate_left
      · intro w hSw; (try dsimp only at hSw); go_simp; (try with_reducible rfl)
      try simp only [Act.put, List.setIfInBounds_toArray, List.set_cons_zero, List.set_cons_succ]
      refine wpAnyH_take (i := 8) (v := ?_) (by simp only [List.getElem?_toArray, List.getElem?_cons_succ, List.getElem?_cons_zero]; rfl) (by kernel_rfl) (by kernel_rfl) (by kernel_rfl) (by exact fun _ _ _ h => h) (Or.inl ⟨by rfl, ?_⟩) hHeld ?_
      rotate_left
      · intro w hSw; (try dsimp only at hSw); go_simp; (try with_reducible rfl)
      try simp only [Act.put, List.setIfInBounds_toArray, List.set_cons_zero, List.set_cons_succ]
      refine wpAnyH_take (i := 9) (v := ?_) (by simp only [List.getElem?_toArray, List.getElem?_cons_succ, List.getElem?_cons_zero]; rfl) (by kernel_rfl) (by kernel_rfl) (by kernel_rfl) (by exact fun _ _ _ h => h) (Or.inl ⟨by rfl, ?_⟩) hHeld ?_
      rotate_left
      · intro w hSw; (try dsimp only at hSw); go_simp; (try with_reducible rfl)
      try simp only [Act.put, List.setIfInBounds_toArray, List.set_cons_zero, List.set_cons_succ]
      refine wpAnyH_take (i := 10) (v := ?_) (by simp only [List.getElem?_toArray, List.getElem?_cons_succ, List.getElem?_cons_zero]; rfl) (by kernel_rfl) (by kernel_rfl) (by kernel_rfl) (by exact fun _ _ _ h => h) (Or.inl ⟨by rfl, ?_⟩) hHeld ?_
      rotate_left
      · intro w hSw; (try dsimp only at hSw); go_simp; (try with_reducible rfl)
      try simp only [Act.put, List.setIfInBounds_toArray, List.set_cons_zero, List.set_cons_succ]
      refine wpAnyH_ready (rs := [5]) (by kernel_rfl) (by simp) ?_
      refine AllReadyH.cons (by simp only [List.getElem?_toArray, List.getElem?_cons_succ, List.getElem?_cons_zero]; rfl) (fun kC hkC => ?_) AllReadyH.nil
      go_simp
      refine (rnode_lit 2 2 4 0 2 t l 0 _ HG0.out _).mono ?_; rintro e w2 ⟨rfl, hk2⟩; have hb2 := hbd.no hk2; have hm2 := hmd.keep hk2 (fun f => f) (fun _ _ f => f)
      (try go_wp2_with fail)
      refine hkC.out _ _ (hb2.two) (fun hHeld => ?_)
      clear hkC kC
      try simp only [Act.put, List.setIfInBounds_toArray, List.set_cons_zero, List.set_cons_succ]
      refine wpAnyH_ready (rs := [11]) (by kernel_rfl) (by simp) ?_
      refine AllReadyH.cons (by simp only [List.getElem?_toArray, List.getElem?_cons_succ, List.getElem?_cons_zero]; rfl) (fun kC hkC => ?_) AllReadyH.nil
      go_simp
      refine (rnode_lit 2 2 4 0 2 t l 1 _ HG1.out _).mono ?_; rintro e w3 ⟨rfl, hk3⟩; have hb3 := hb2.no hk3; have hm3 := hm2.keep hk3 (fun f => f) (fun _ _ f => f)
      (try go_wp2_with fail)
      refine hkC.out _ _ (hb3.two) (fun hHeld => ?_)
      clear hkC kC
      try simp only [Act.put, List.setIfInBounds_toArray, List.set_cons_zero, List.set_cons_succ]
      refine wpAnyH_take (i := 12) (v := ?_) (by simp only [List.getElem?_toArray, List.getElem?_cons_succ, List.getElem?_cons_zero]; rfl) (by kernel_rfl) (by kernel_rfl) (by kernel_rfl) (by exact fun _ _ _ h => h) (Or.inl ⟨by rfl, ?_⟩) hHeld ?_
      rotate_left
      · intro w hSw; (try dsimp only at hSw); go_simp; (try with_reducible rfl)
      try simp only [Act.put, List.setIfInBounds_toArray, List.set_cons_zero, List.set_cons_succ]
      refine wpAnyH_take (i := 13) (v := ?_) (by simp only [List.getElem?_toArray, List.getElem?_cons_succ, List.getElem?_cons_zero]; rfl) (by kernel_rfl) (by kernel_rfl) (by kernel_rfl) (by exact fun _ _ _ h => h) (Or.inl ⟨by rfl, ?_⟩) hHeld ?_
      rotate_left
      · intro w hSw; (try dsimp only at hSw); go_simp; (try with_reducible rfl)
      try simp only [Act.put, List.setIfInBounds_toArray, List.set_cons_zero, List.set_cons_succ]
      refine wpAnyH_done (by kernel_rfl) ?_ _
      go_wp2_with fail
      have hbe := hb3.no ((Keeps.refl NoS w3).drew)
      have hme := hm3.keep ((Keeps.refl NoS w3).drew) (fun f => f) (fun _ _ f => f)
      refine wp_region_held_drew (S := (fun w' => (w'.cell? ⟨B, 0, none⟩ = some (.int .i64 2) ∧ w'.cell? ⟨B, 1, none⟩ = some (.int .i64 2) ∧ w'.cell? ⟨B, 2, none⟩ = some (.int .i64 4) ∧ w'.cell? ⟨B, 3, none⟩ = some (.int .i64 0) ∧ w'.cell? ⟨B, 4, none⟩ = some (.int .i64 2)) ∧ (w'.cell? ⟨(B + 1), 0, none⟩ = some (.int .i64 t) ∧ w'.cell? ⟨(B + 1), 1, none⟩ = some (.int .i64 l) ∧ w'.cell? ⟨(B + 1), 2, none⟩ = some (.int .i64 5) ∧ w'.cell? ⟨(B + 1), 3, none⟩ = some (.bool r) ∧ w'.cell? ⟨(B + 1), 4, none⟩ = some (.int .i64 x)))) (by kernel_rfl) (hbe.two) (fun hHeld => ?_)
      refine wpAnyH_take (i := 0) (v := ?_) (by simp only [List.getElem?_toArray, List.getElem?_cons_succ, List.getElem?_cons_zero]; rfl) (by kernel_rfl) (by kernel_rfl) (by kernel_rfl) (by exact fun _ _ _ h => h) (Or.inl ⟨by rfl, ?_⟩) hHeld ?_
      rotate_left
      · intro w hSw; (try dsimp only at hSw); go_simp; (try with_reducible rfl)
      try simp only [Act.put, List.setIfInBounds_toArray, List.set_cons_zero, List.set_cons_succ]
      refine wpAnyH_take (i := 1) (v := ?_) (by simp only [List.getElem?_toArray, List.getElem?_cons_succ, List.getElem?_cons_zero]; rfl) (by kernel_rfl) (by kernel_rfl) (by kernel_rfl) (by exact fun _ _ _ h => h) (Or.inl ⟨by rfl, ?_⟩) hHeld ?_
      rotate_left
      · intro w hSw; (try dsimp only at hSw); go_simp; (try with_reducible rfl)
      try simp only [Act.put, List.setIfInBounds_toArray, List.set_cons_zero, List.set_cons_succ]
      refine wpAnyH_take (i := 2) (v := ?_) (by simp only [List.getElem?_toArray, List.getElem?_cons_succ, List.getElem?_cons_zero]; rfl) (by kernel_rfl) (by kernel_rfl) (by kernel_rfl) (by exact fun _ _ _ h => h) (Or.inl ⟨by rfl, ?_⟩) hHeld ?_
      rotate_left
      · intro w hSw; (try dsimp only at hSw); go_simp; (try with_reducible rfl)
      try simp only [Act.put, List.setIfInBounds_toArray, List.set_cons_zero, List.set_cons_succ]
      refine wpAnyH_take (i := 4) (v := ?_) (by simp only [List.getElem?_toArray, List.getElem?_cons_succ, List.getElem?_cons_zero]; rfl) (by kernel_rfl) (by kernel_rfl) (by kernel_rfl) (by exact fun _ _ _ h => h) (Or.inl ⟨by rfl, ?_⟩) hHeld ?_
      rotate_left
      · intro w hSw; (try dsimp only at hSw); go_simp; (try with_reducible rfl)
      try simp only [Act.put, List.setIfInBounds_toArray, List.set_cons_zero, List.set_cons_succ]
      refine wpAnyH_take (i := 5) (v := ?_) (by simp only [List.getElem?_toArray, List.getElem?_cons_succ, List.getElem?_cons_zero]; rfl) (by kernel_rfl) (by kernel_rfl) (by kernel_rfl) (by exact fun _ _ _ h => h) (Or.inl ⟨by rfl, ?_⟩) hHeld ?_
      rotate_left
      · intro w hSw; (try dsimp only at hSw); go_simp; (try with_reducible rfl)
      try simp only [Act.put, List.setIfInBounds_toArray, List.set_cons_zero, List.set_cons_succ]
      refine wpAnyH_take (i := 6) (v := ?_) (by simp only [List.getElem?_toArray, List.getElem?_cons_succ, List.getElem?_cons_zero]; rfl) (by kernel_rfl) (by kernel_rfl) (by kernel_rfl) (by exact fun _ _ _ h => h) (Or.inl ⟨by rfl, ?_⟩) hHeld ?_
      rotate_left
      · intro w hSw; (try dsimp only at hSw); go_simp; (try with_reducible rfl)
      try simp only [Act.put, List.setIfInBounds_toArray, List.set_cons_zero, List.set_cons_succ]
      refine wpAnyH_take (i := 7) (v := ?_) (by simp only [List.getElem?_toArray, List.getElem?_cons_succ, List.getElem?_cons_zero]; rfl) (by kernel_rfl) (by kernel_rfl) (by kernel_rfl) (by exact fun _ _ _ h => h) (Or.inl ⟨by rfl, ?_⟩) hHeld ?_
      rotate_left
      · intro w hSw; (try dsimp only at hSw); go_simp; (try with_reducible rfl)
      try simp only [Act.put, List.setIfInBounds_toArray, List.set_cons_zero, List.set_cons_succ]
      refine wpAnyH_take (i := 8) (v := ?_) (by simp only [List.getElem?_toArray, List.getElem?_cons_succ, List.getElem?_cons_zero]; rfl) (by kernel_rfl) (by kernel_rfl) (by kernel_rfl) (by exact fun _ _ _ h => h) (Or.inl ⟨by rfl, ?_⟩) hHeld ?_
      rotate_left
      · intro w hSw; (try dsimp only at hSw); go_simp; (try with_reducible rfl)
      try simp only [Act.put, List.setIfInBounds_toArray, List.set_cons_zero, List.set_cons_succ]
      refine wpAnyH_ready (rs := [3]) (by kernel_rfl) (by simp) ?_
      refine AllReadyH.cons (by simp only [List.getElem?_toArray, List.getElem?_cons_succ, List.getElem?_cons_zero]; rfl) (fun kC hkC => ?_) AllReadyH.nil
      go_simp
      refine (rlock_lit 2 2 4 0 2 l 0 _ HTL.out _).mono ?_; rintro e w5 ⟨rfl, hk5⟩; have hb5 := hbe.no hk5; have hm5 := hme.keep hk5 (fun f => f) (fun _ _ f => f)
      (try go_wp2_with fail)
      refine hkC.out _ _ (hb5.two) (fun hHeld => ?_)
      clear hkC kC
      try simp only [Act.put, List.setIfInBounds_toArray, List.set_cons_zero, List.set_cons_succ]
      refine wpAnyH_ready (rs := [9]) (by kernel_rfl) (by simp) ?_
      refine AllReadyH.cons (by simp only [List.getElem?_toArray, List.getElem?_cons_succ, List.getElem?_cons_zero]; rfl) (fun kC hkC => ?_) AllReadyH.nil
      go_simp
      refine (HID.out _).mono ?_; rintro e w6 ⟨rfl, hk6⟩; have hb6 := hb5.no hk6; have hm6 := hm5.keep hk6 (fun f => f) (fun _ _ f => f)
      (try go_wp2_with fail)
      refine hkC.out _ _ (hb6.two) (fun hHeld => ?_)
      clear hkC kC
      try simp only [Act.put, List.setIfInBounds_toArray, List.set_cons_zero, List.set_cons_succ]
      refine wpAnyH_take (i := 10) (v := ?_) (by simp only [List.getElem?_toArray, List.getElem?_cons_succ, List.getElem?_cons_zero]; rfl) (by kernel_rfl) (by kernel_rfl) (by kernel_rfl) (by exact fun _ _ _ h => h) (Or.inl ⟨by rfl, ?_⟩) hHeld ?_
      rotate_left
      · intro w hSw; (try dsimp only at hSw); go_simp; (try with_reducible rfl)
      try simp only [Act.put, List.setIfInBounds_toArray, List.set_cons_zero, List.set_cons_succ]
      refine wpAnyH_take (i := 11) (v := ?_) (by simp only [List.getElem?_toArray, List.getElem?_cons_succ, List.getElem?_cons_zero]; rfl) (by kernel_rfl) (by kernel_rfl) (by kernel_rfl) (by exact fun _ _ _ h => h) (Or.inl ⟨by rfl, ?_⟩) hHeld ?_
      rotate_left
      · intro w hSw; (try dsimp only at hSw); go_simp; (try with_reducible rfl)
      try simp only [Act.put, List.setIfInBounds_toArray, List.set_cons_zero, List.set_cons_succ]
      refine wpAnyH_done (by kernel_rfl) ?_ _
      have hk06 := (((((((HK.out.trans hk1).trans (Keeps.refl NoS w1).drew).trans hk2).trans hk3).trans (Keeps.refl NoS w3).drew).trans hk5).trans hk6)
      have HB6 := Lib.hid hb6; have HM6 := Lib.hid hm6; have HK6 := Lib.hid hk06
      clear hb6 hm6 hk06 hb5 hm5 hbe hme hb3 hm3 hb2 hm2 hbd hmd hb1 hm1 m0 m1 m2 m3 m4 c0 c1 c2 c3 c4 r0 r1 r2 r3 r4 f0 f1 f2 f3 f4 g0 g1 g2 g3 g4 z1 z2
      obtain ⟨⟨m0, m1, m2, m3, m4⟩, ⟨c0, c1, c2, c3, c4⟩, ⟨r0, r1, r2, r3, r4⟩, ⟨f0, f1, f2, f3, f4⟩, ⟨g0, g1, g2, g3, g4⟩, z1, z2⟩ := HB6.out.facts
      go_wp2_with (go_at_call 65; refine (rload_ok a v M (ndA t l 0) _ HM6.out HN0.out).mono ?_; rw [HC.out]; rintro e w4 ⟨rfl, hm, hk4'⟩; have hk4 : Keeps (own2m a v) w6 w4 := hk4'.mono (fun _ e => .inl e); have hb4 := HB6.out.own hk4 ha HV.out; obtain ⟨⟨m0, m1, m2, m3, m4⟩, ⟨c0, c1, c2, c3, c4⟩, ⟨r0, r1, r2, r3, r4⟩, ⟨f0, f1, f2, f3, f4⟩, ⟨g0, g1, g2, g3, g4⟩, z1, z2⟩ := hb4.facts; have hkk : Keeps (own2m a v) w w4 := HK6.out.no.trans hk4; clear hb4)
      refine bodyPost_ret (v := .agg #[.int .i64 t, .int .i64 l, .int .i64 9, .bool r, .int .i64 x]) (by simp [results, Try.results34, go_sem, *]) rfl ⟨rfl, ?_, ?_⟩
      · repeat (first | (with_reducible exact hm) | refine MemT.set (B := B) ?_ ha HV.out _ (by show B ≤ _; dsimp only; omega) _)
      · repeat (first | (with_reducible exact hkk) | refine kset HB.out ?_ _ (by show B ≤ _; dsimp only; omega) _)
    · rw [show mTake M t l 5 r x = (M.load (ndA t l 0), ⟨t, l, 5, r, x⟩) by (unfold mTake; rw [if_neg (show ¬ (5 : Int) = 0 by decide), if_neg (show ¬ (5 : Int) = 1 by decide), if_neg (show ¬ (5 : Int) = 2 by decide), if_neg (show ¬ (5 : Int) = 3 by decide), if_neg (show ¬ (5 : Int) = 4 by decide), if_pos rfl, hc, if_neg hc0])]
      have hc1 : (c == 0) = false := by simpa using hc0
      clear hc hc0
      unfold handV
      dsimp only
      go_enter Try.func34, Try.ntmps34
      go_wp2_with fail
      rw [HB.out]
      refine (rmay8_any t l 5 r x _).mono ?_
      rw [HOK.out]
      rintro e w1 ⟨rfl, hk1⟩
      have hb1 := HBX.out.no hk1
      have hm1 := HA2.out.keep hk1 (fun f => f) (fun _ _ f => f)
      obtain ⟨⟨m0, m1, m2, m3, m4⟩, ⟨c0, c1, c2, c3, c4⟩, ⟨r0, r1, r2, r3, r4⟩, ⟨f0, f1, f2, f3, f4⟩, ⟨g0, g1, g2, g3, g4⟩, z1, z2⟩ := hb1.facts
      go_wp2_with fail
      have hbd := hb1.no ((Keeps.refl NoS w1).drew)
      have hmd := hm1.keep ((Keeps.refl NoS w1).drew) (fun f => f) (fun _ _ f => f)
      refine wp_region_held_drew (S := (fun w' => (w'.cell? ⟨B, 0, none⟩ = some (.int .i64 2) ∧ w'.cell? ⟨B, 1, none⟩ = some (.int .i64 2) ∧ w'.cell? ⟨B, 2, none⟩ = some (.int .i64 4) ∧ w'.cell? ⟨B, 3, none⟩ = some (.int .i64 0) ∧ w'.cell? ⟨B, 4, none⟩ = some (.int .i64 2)) ∧ (w'.cell? ⟨(B + 1), 0, none⟩ = some (.int .i64 t) ∧ w'.cell? ⟨(B + 1), 1, none⟩ = some (.int .i64 l) ∧ w'.cell? ⟨(B + 1), 2, none⟩ = some (.int .i64 5) ∧ w'.cell? ⟨(B + 1), 3, none⟩ = some (.bool r) ∧ w'.cell? ⟨(B + 1), 4, none⟩ = some (.int .i64 x)))) (by kernel_rfl) (hbd.two) (fun hHeld => ?_)
      refine wpAnyH_take (i := 0) (v := ?_) (by simp only [List.getElem?_toArray, List.getElem?_cons_succ, List.getElem?_cons_zero]; rfl) (by kernel_rfl) (by kernel_rfl) (by kernel_rfl) (by exact fun _ _ _ h => h) (Or.inl ⟨by rfl, ?_⟩) hHeld ?_
      rotate_left
      · intro w hSw; (try dsimp only at hSw); go_simp; (try with_reducible rfl)
      try simp only [Act.put, List.setIfInBounds_toArray, List.set_cons_zero, List.set_cons_succ]
      refine wpAnyH_take (i := 1) (v := ?_) (by simp only [List.getElem?_toArray, List.getElem?_cons_succ, List.getElem?_cons_zero]; rfl) (by kernel_rfl) (by kernel_rfl) (by kernel_rfl) (by exact fun _ _ _ h => h) (Or.inl ⟨by rfl, ?_⟩) hHeld ?_
      rotate_left
      · intro w hSw; (try dsimp only at hSw); go_simp; (try with_reducible rfl)
      try simp only [Act.put, List.setIfInBounds_toArray, List.set_cons_zero, List.set_cons_succ]
      refine wpAnyH_take (i := 2) (v := ?_) (by simp only [List.getElem?_toArray, List.getElem?_cons_succ, List.getElem?_cons_zero]; rfl) (by kernel_rfl) (by kernel_rfl) (by kernel_rfl) (by exact fun _ _ _ h => h) (Or.inl ⟨by rfl, ?_⟩) hHeld ?_
      rotate_left
      · intro w hSw; (try dsimp only at hSw); go_simp; (try with_reducible rfl)
      try simp only [Act.put, List.setIfInBounds_toArray, List.set_cons_zero, List.set_cons_succ]
      refine wpAnyH_take (i := 3) (v := ?_) (by simp only [List.getElem?_toArray, List.getElem?_cons_succ, List.getElem?_cons_zero]; rfl) (by kernel_rfl) (by kernel_rfl) (by kernel_rfl) (by exact fun _ _ _ h => h) (Or.inl ⟨by rfl, ?_⟩) hHeld ?_
      rotate_left
      · intro w hSw; (try dsimp only at hSw); go_simp; (try with_reducible rfl)
      try simp only [Act.put, List.setIfInBounds_toArray, List.set_cons_zero, List.set_cons_succ]
      refine wpAnyH_take (i := 4) (v := ?_) (by simp only [List.getElem?_toArray, List.getElem?_cons_succ, List.getElem?_cons_zero]; rfl) (by kernel_rfl) (by kernel_rfl) (by kernel_rfl) (by exact fun _ _ _ h => h) (Or.inl ⟨by rfl, ?_⟩) hHeld ?_
      rotate_left
      · intro w hSw; (try dsimp only at hSw); go_simp; (try with_reducible rfl)
      try simp only [Act.put, List.setIfInBounds_toArray, List.set_cons_zero, List.set_cons_succ]
      refine wpAnyH_take (i := 6) (v := ?_) (by simp only [List.getElem?_toArray, List.getElem?_cons_succ, List.getElem?_cons_zero]; rfl) (by kernel_rfl) (by kernel_rfl) (by kernel_rfl) (by exact fun _ _ _ h => h) (Or.inl ⟨by rfl, ?_⟩) hHeld ?_
      rotate_left
      · intro w hSw; (try dsimp only at hSw); go_simp; (try with_reducible rfl)
      try simp only [Act.put, List.setIfInBounds_toArray, List.set_cons_zero, List.set_cons_succ]
      refine wpAnyH_take (i := 7) (v := ?_) (by simp only [List.getElem?_toArray, List.getElem?_cons_succ, List.getElem?_cons_zero]; rfl) (by kernel_rfl) (by kernel_rfl) (by kernel_rfl) (by exact fun _ _ _ h => h) (Or.inl ⟨by rfl, ?_⟩) hHeld ?_
      rotate_left
      · intro w hSw; (try dsimp only at hSw); go_simp; (try with_reducible rfl)
      try simp only [Act.put, List.setIfInBounds_toArray, List.set_cons_zero, List.set_cons_succ]
      refine wpAnyH_take (i := 8) (v := ?_) (by simp only [List.getElem?_toArray, List.getElem?_cons_succ, List.getElem?_cons_zero]; rfl) (by kernel_rfl) (by kernel_rfl) (by kernel_rfl) (by exact fun _ _ _ h => h) (Or.inl ⟨by rfl, ?_⟩) hHeld ?_
      rotate_left
      · intro w hSw; (try dsimp only at hSw); go_simp; (try with_reducible rfl)
      try simp only [Act.put, List.setIfInBounds_toArray, List.set_cons_zero, List.set_cons_succ]
      refine wpAnyH_take (i := 9) (v := ?_) (by simp only [List.getElem?_toArray, List.getElem?_cons_succ, List.getElem?_cons_zero]; rfl) (by kernel_rfl) (by kernel_rfl) (by kernel_rfl) (by exact fun _ _ _ h => h) (Or.inl ⟨by rfl, ?_⟩) hHeld ?_
      rotate_left
      · intro w hSw; (try dsimp only at hSw); go_simp; (try with_reducible rfl)
      try simp only [Act.put, List.setIfInBounds_toArray, List.set_cons_zero, List.set_cons_succ]
      refine wpAnyH_take (i := 10) (v := ?_) (by simp only [List.getElem?_toArray, List.getElem?_cons_succ, List.getElem?_cons_zero]; rfl) (by kernel_rfl) (by kernel_rfl) (by kernel_rfl) (by exact fun _ _ _ h => h) (Or.inl ⟨by rfl, ?_⟩) hHeld ?_
      rotate_left
      · intro w hSw; (try dsimp only at hSw); go_simp; (try with_reducible rfl)
      try simp only [Act.put, List.setIfInBounds_toArray, List.set_cons_zero, List.set_cons_succ]
      refine wpAnyH_ready (rs := [5]) (by kernel_rfl) (by simp) ?_
      refine AllReadyH.cons (by simp only [List.getElem?_toArray, List.getElem?_cons_succ, List.getElem?_cons_zero]; rfl) (fun kC hkC => ?_) AllReadyH.nil
      go_simp
      refine (rnode_lit 2 2 4 0 2 t l 0 _ HG0.out _).mono ?_; rintro e w2 ⟨rfl, hk2⟩; have hb2 := hbd.no hk2; have hm2 := hmd.keep hk2 (fun f => f) (fun _ _ f => f)
      (try go_wp2_with fail)
      refine hkC.out _ _ (hb2.two) (fun hHeld => ?_)
      clear hkC kC
      try simp only [Act.put, List.setIfInBounds_toArray, List.set_cons_zero, List.set_cons_succ]
      refine wpAnyH_ready (rs := [11]) (by kernel_rfl) (by simp) ?_
      refine AllReadyH.cons (by simp only [List.getElem?_toArray, List.getElem?_cons_succ, List.getElem?_cons_zero]; rfl) (fun kC hkC => ?_) AllReadyH.nil
      go_simp
      refine (rnode_lit 2 2 4 0 2 t l 1 _ HG1.out _).mono ?_; rintro e w3 ⟨rfl, hk3⟩; have hb3 := hb2.no hk3; have hm3 := hm2.keep hk3 (fun f => f) (fun _ _ f => f)
      (try go_wp2_with fail)
      refine hkC.out _ _ (hb3.two) (fun hHeld => ?_)
      clear hkC kC
      try simp only [Act.put, List.setIfInBounds_toArray, List.set_cons_zero, List.set_cons_succ]
      refine wpAnyH_take (i := 12) (v := ?_) (by simp only [List.getElem?_toArray, List.getElem?_cons_succ, List.getElem?_cons_zero]; rfl) (by kernel_rfl) (by kernel_rfl) (by kernel_rfl) (by exact fun _ _ _ h => h) (Or.inl ⟨by rfl, ?_⟩) hHeld ?_
      rotate_left
      · intro w hSw; (try dsimp only at hSw); go_simp; (try with_reducible rfl)
      try simp only [Act.put, List.setIfInBounds_toArray, List.set_cons_zero, List.set_cons_succ]
      refine wpAnyH_take (i := 13) (v := ?_) (by simp only [List.getElem?_toArray, List.getElem?_cons_succ, List.getElem?_cons_zero]; rfl) (by kernel_rfl) (by kernel_rfl) (by kernel_rfl) (by exact fun _ _ _ h => h) (Or.inl ⟨by rfl, ?_⟩) hHeld ?_
      rotate_left
      · intro w hSw; (try dsimp only at hSw); go_simp; (try with_reducible rfl)
      try simp only [Act.put, List.setIfInBounds_toArray, List.set_cons_zero, List.set_cons_succ]
      refine wpAnyH_done (by kernel_rfl) ?_ _
      go_wp2_with fail
      have hbe := hb3.no ((Keeps.refl NoS w3).drew)
      have hme := hm3.keep ((Keeps.refl NoS w3).drew) (fun f => f) (fun _ _ f => f)
      refine wp_region_held_drew (S := (fun w' => (w'.cell? ⟨B, 0, none⟩ = some (.int .i64 2) ∧ w'.cell? ⟨B, 1, none⟩ = some (.int .i64 2) ∧ w'.cell? ⟨B, 2, none⟩ = some (.int .i64 4) ∧ w'.cell? ⟨B, 3, none⟩ = some (.int .i64 0) ∧ w'.cell? ⟨B, 4, none⟩ = some (.int .i64 2)) ∧ (w'.cell? ⟨(B + 1), 0, none⟩ = some (.int .i64 t) ∧ w'.cell? ⟨(B + 1), 1, none⟩ = some (.int .i64 l) ∧ w'.cell? ⟨(B + 1), 2, none⟩ = some (.int .i64 5) ∧ w'.cell? ⟨(B + 1), 3, none⟩ = some (.bool r) ∧ w'.cell? ⟨(B + 1), 4, none⟩ = some (.int .i64 x)))) (by kernel_rfl) (hbe.two) (fun hHeld => ?_)
      refine wpAnyH_take (i := 0) (v := ?_) (by simp only [List.getElem?_toArray, List.getElem?_cons_succ, List.getElem?_cons_zero]; rfl) (by kernel_rfl) (by kernel_rfl) (by kernel_rfl) (by exact fun _ _ _ h => h) (Or.inl ⟨by rfl, ?_⟩) hHeld ?_
      rotate_left
      · intro w hSw; (try dsimp only at hSw); go_simp; (try with_reducible rfl)
      try simp only [Act.put, List.setIfInBounds_toArray, List.set_cons_zero, List.set_cons_succ]
      refine wpAnyH_take (i := 1) (v := ?_) (by simp only [List.getElem?_toArray, List.getElem?_cons_succ, List.getElem?_cons_zero]; rfl) (by kernel_rfl) (by kernel_rfl) (by kernel_rfl) (by exact fun _ _ _ h => h) (Or.inl ⟨by rfl, ?_⟩) hHeld ?_
      rotate_left
      · intro w hSw; (try dsimp only at hSw); go_simp; (try with_reducible rfl)
      try simp only [Act.put, List.setIfInBounds_toArray, List.set_cons_zero, List.set_cons_succ]
      refine wpAnyH_take (i := 2) (v := ?_) (by simp only [List.getElem?_toArray, List.getElem?_cons_succ, List.getElem?_cons_zero]; rfl) (by kernel_rfl) (by kernel_rfl) (by kernel_rfl) (by exact fun _ _ _ h => h) (Or.inl ⟨by rfl, ?_⟩) hHeld ?_
      rotate_left
      · intro w hSw; (try dsimp only at hSw); go_simp; (try with_reducible rfl)
      try simp only [Act.put, List.setIfInBounds_toArray, List.set_cons_zero, List.set_cons_succ]
      refine wpAnyH_take (i := 4) (v := ?_) (by simp only [List.getElem?_toArray, List.getElem?_cons_succ, List.getElem?_cons_zero]; rfl) (by kernel_rfl) (by kernel_rfl) (by kernel_rfl) (by exact fun _ _ _ h => h) (Or.inl ⟨by rfl, ?_⟩) hHeld ?_
      rotate_left
      · intro w hSw; (try dsimp only at hSw); go_simp; (try with_reducible rfl)
      try simp only [Act.put, List.setIfInBounds_toArray, List.set_cons_zero, List.set_cons_succ]
      refine wpAnyH_take (i := 5) (v := ?_) (by simp only [List.getElem?_toArray, List.getElem?_cons_succ, List.getElem?_cons_zero]; rfl) (by kernel_rfl) (by kernel_rfl) (by kernel_rfl) (by exact fun _ _ _ h => h) (Or.inl ⟨by rfl, ?_⟩) hHeld ?_
      rotate_left
      · intro w hSw; (try dsimp only at hSw); go_simp; (try with_reducible rfl)
      try simp only [Act.put, List.setIfInBounds_toArray, List.set_cons_zero, List.set_cons_succ]
      refine wpAnyH_take (i := 6) (v := ?_) (by simp only [List.getElem?_toArray, List.getElem?_cons_succ, List.getElem?_cons_zero]; rfl) (by kernel_rfl) (by kernel_rfl) (by kernel_rfl) (by exact fun _ _ _ h => h) (Or.inl ⟨by rfl, ?_⟩) hHeld ?_
      rotate_left
      · intro w hSw; (try dsimp only at hSw); go_simp; (try with_reducible rfl)
      try simp only [Act.put, List.setIfInBounds_toArray, List.set_cons_zero, List.set_cons_succ]
      refine wpAnyH_take (i := 7) (v := ?_) (by simp only [List.getElem?_toArray, List.getElem?_cons_succ, List.getElem?_cons_zero]; rfl) (by kernel_rfl) (by kernel_rfl) (by kernel_rfl) (by exact fun _ _ _ h => h) (Or.inl ⟨by rfl, ?_⟩) hHeld ?_
      rotate_left
      · intro w hSw; (try dsimp only at hSw); go_simp; (try with_reducible rfl)
      try simp only [Act.put, List.setIfInBounds_toArray, List.set_cons_zero, List.set_cons_succ]
      refine wpAnyH_take (i := 8) (v := ?_) (by simp only [List.getElem?_toArray, List.getElem?_cons_succ, List.getElem?_cons_zero]; rfl) (by kernel_rfl) (by kernel_rfl) (by kernel_rfl) (by exact fun _ _ _ h => h) (Or.inl ⟨by rfl, ?_⟩) hHeld ?_
      rotate_left
      · intro w hSw; (try dsimp only at hSw); go_simp; (try with_reducible rfl)
      try simp only [Act.put, List.setIfInBounds_toArray, List.set_cons_zero, List.set_cons_succ]
      refine wpAnyH_ready (rs := [3]) (by kernel_rfl) (by simp) ?_
      refine AllReadyH.cons (by simp only [List.getElem?_toArray, List.getElem?_cons_succ, List.getElem?_cons_zero]; rfl) (fun kC hkC => ?_) AllReadyH.nil
      go_simp
      refine (rlock_lit 2 2 4 0 2 l 0 _ HTL.out _).mono ?_; rintro e w5 ⟨rfl, hk5⟩; have hb5 := hbe.no hk5; have hm5 := hme.keep hk5 (fun f => f) (fun _ _ f => f)
      (try go_wp2_with fail)
      refine hkC.out _ _ (hb5.two) (fun hHeld => ?_)
      clear hkC kC
      try simp only [Act.put, List.setIfInBounds_toArray, List.set_cons_zero, List.set_cons_succ]
      refine wpAnyH_ready (rs := [9]) (by kernel_rfl) (by simp) ?_
      refine AllReadyH.cons (by simp only [List.getElem?_toArray, List.getElem?_cons_succ, List.getElem?_cons_zero]; rfl) (fun kC hkC => ?_) AllReadyH.nil
      go_simp
      refine (HID.out _).mono ?_; rintro e w6 ⟨rfl, hk6⟩; have hb6 := hb5.no hk6; have hm6 := hm5.keep hk6 (fun f => f) (fun _ _ f => f)
      (try go_wp2_with fail)
      refine hkC.out _ _ (hb6.two) (fun hHeld => ?_)
      clear hkC kC
      try simp only [Act.put, List.setIfInBounds_toArray, List.set_cons_zero, List.set_cons_succ]
      refine wpAnyH_take (i := 10) (v := ?_) (by simp only [List.getElem?_toArray, List.getElem?_cons_succ, List.getElem?_cons_zero]; rfl) (by kernel_rfl) (by kernel_rfl) (by kernel_rfl) (by exact fun _ _ _ h => h) (Or.inl ⟨by rfl, ?_⟩) hHeld ?_
      rotate_left
      · intro w hSw; (try dsimp only at hSw); go_simp; (try with_reducible rfl)
      try simp only [Act.put, List.setIfInBounds_toArray, List.set_cons_zero, List.set_cons_succ]
      refine wpAnyH_take (i := 11) (v := ?_) (by simp only [List.getElem?_toArray, List.getElem?_cons_succ, List.getElem?_cons_zero]; rfl) (by kernel_rfl) (by kernel_rfl) (by kernel_rfl) (by exact fun _ _ _ h => h) (Or.inl ⟨by rfl, ?_⟩) hHeld ?_
      rotate_left
      · intro w hSw; (try dsimp only at hSw); go_simp; (try with_reducible rfl)
      try simp only [Act.put, List.setIfInBounds_toArray, List.set_cons_zero, List.set_cons_succ]
      refine wpAnyH_done (by kernel_rfl) ?_ _
      have hk06 := (((((((HK.out.trans hk1).trans (Keeps.refl NoS w1).drew).trans hk2).trans hk3).trans (Keeps.refl NoS w3).drew).trans hk5).trans hk6)
      have HB6 := Lib.hid hb6; have HM6 := Lib.hid hm6; have HK6 := Lib.hid hk06
      clear hb6 hm6 hk06 hb5 hm5 hbe hme hb3 hm3 hb2 hm2 hbd hmd hb1 hm1 m0 m1 m2 m3 m4 c0 c1 c2 c3 c4 r0 r1 r2 r3 r4 f0 f1 f2 f3 f4 g0 g1 g2 g3 g4 z1 z2
      obtain ⟨⟨m0, m1, m2, m3, m4⟩, ⟨c0, c1, c2, c3, c4⟩, ⟨r0, r1, r2, r3, r4⟩, ⟨f0, f1, f2, f3, f4⟩, ⟨g0, g1, g2, g3, g4⟩, z1, z2⟩ := HB6.out.facts
      go_wp2_with (go_at_call 65; refine (rload_ok a v M (ndA t l 0) _ HM6.out HN0.out).mono ?_; rw [HC.out]; rintro e w4 ⟨rfl, hm, hk4'⟩; have hk4 : Keeps (own2m a v) w6 w4 := hk4'.mono (fun _ e => .inl e); have hb4 := HB6.out.own hk4 ha HV.out; obtain ⟨⟨m0, m1, m2, m3, m4⟩, ⟨c0, c1, c2, c3, c4⟩, ⟨r0, r1, r2, r3, r4⟩, ⟨f0, f1, f2, f3, f4⟩, ⟨g0, g1, g2, g3, g4⟩, z1, z2⟩ := hb4.facts; have hkk : Keeps (own2m a v) w w4 := HK6.out.no.trans hk4; clear hb4)
      refine bodyPost_ret (v := .agg #[.int .i64 t, .int .i64 l, .int .i64 5, .bool r, .int .i64 x]) (by simp [results, Try.results34, go_sem, *]) rfl ⟨rfl, ?_, ?_⟩
      · repeat (first | (with_reducible exact hm) | refine MemT.set (B := B) ?_ ha HV.out _ (by show B ≤ _; dsimp only; omega) _)
      · repeat (first | (with_reducible exact hkk) | refine kset HB.out ?_ _ (by show B ≤ _; dsimp only; omega) _)
  rw [show mTake M t l s r x = (M, ⟨t, l, s, r, x⟩) by unfold mTake; rw [if_neg s0, if_neg s1, if_neg s2, if_neg s3, if_neg s4, if_neg s5]]
  have e0 : (s == 0) = false := by simpa using s0
  have e1 : (s == 1) = false := by simpa using s1
  have e2 : (s == 2) = false := by simpa using s2
  have e3 : (s == 3) = false := by simpa using s3
  have e4 : (s == 4) = false := by simpa using s4
  have e5 : (s == 5) = false := by simpa using s5
  clear s0 s1 s2 s3 s4 s5
  unfold handV
  dsimp only
  go_enter Try.func34, Try.ntmps34
  go_wp2_with fail
  rw [HB.out]
  refine (rmay8_any t l s r x _).mono ?_
  rw [HOK.out]
  rintro e w1 ⟨rfl, hk1⟩
  have hb1 := HBX.out.no hk1
  have hm1 := HA2.out.keep hk1 (fun f => f) (fun _ _ f => f)
  obtain ⟨⟨m0, m1, m2, m3, m4⟩, ⟨c0, c1, c2, c3, c4⟩, ⟨r0, r1, r2, r3, r4⟩, ⟨f0, f1, f2, f3, f4⟩, ⟨g0, g1, g2, g3, g4⟩, z1, z2⟩ := hb1.facts
  go_wp2_with fail
  have hbd := hb1.no ((Keeps.refl NoS w1).drew)
  have hmd := hm1.keep ((Keeps.refl NoS w1).drew) (fun f => f) (fun _ _ f => f)
  refine wp_region_held_drew (S := (fun w' => (w'.cell? ⟨B, 0, none⟩ = some (.int .i64 2) ∧ w'.cell? ⟨B, 1, none⟩ = some (.int .i64 2) ∧ w'.cell? ⟨B, 2, none⟩ = some (.int .i64 4) ∧ w'.cell? ⟨B, 3, none⟩ = some (.int .i64 0) ∧ w'.cell? ⟨B, 4, none⟩ = some (.int .i64 2)) ∧ (w'.cell? ⟨(B + 1), 0, none⟩ = some (.int .i64 t) ∧ w'.cell? ⟨(B + 1), 1, none⟩ = some (.int .i64 l) ∧ w'.cell? ⟨(B + 1), 2, none⟩ = some (.int .i64 s) ∧ w'.cell? ⟨(B + 1), 3, none⟩ = some (.bool r) ∧ w'.cell? ⟨(B + 1), 4, none⟩ = some (.int .i64 x)))) (by kernel_rfl) (hbd.two) (fun hHeld => ?_)
  refine wpAnyH_take (i := 0) (v := ?_) (by simp only [List.getElem?_toArray, List.getElem?_cons_succ, List.getElem?_cons_zero]; rfl) (by kernel_rfl) (by kernel_rfl) (by kernel_rfl) (by exact fun _ _ _ h => h) (Or.inl ⟨by rfl, ?_⟩) hHeld ?_
  rotate_left
  · intro w hSw; (try dsimp only at hSw); go_simp; (try with_reducible rfl)
  try simp only [Act.put, List.setIfInBounds_toArray, List.set_cons_zero, List.set_cons_succ]
  refine wpAnyH_take (i := 1) (v := ?_) (by simp only [List.getElem?_toArray, List.getElem?_cons_succ, List.getElem?_cons_zero]; rfl) (by kernel_rfl) (by kernel_rfl) (by kernel_rfl) (by exact fun _ _ _ h => h) (Or.inl ⟨by rfl, ?_⟩) hHeld ?_
  rotate_left
  · intro w hSw; (try dsimp only at hSw); go_simp; (try with_reducible rfl)
  try simp only [Act.put, List.setIfInBounds_toArray, List.set_cons_zero, List.set_cons_succ]
  refine wpAnyH_take (i := 2) (v := ?_) (by simp only [List.getElem?_toArray, List.getElem?_cons_succ, List.getElem?_cons_zero]; rfl) (by kernel_rfl) (by kernel_rfl) (by kernel_rfl) (by exact fun _ _ _ h => h) (Or.inl ⟨by rfl, ?_⟩) hHeld ?_
  rotate_left
  · intro w hSw; (try dsimp only at hSw); go_simp; (try with_reducible rfl)
  try simp only [Act.put, List.setIfInBounds_toArray, List.set_cons_zero, List.set_cons_succ]
  refine wpAnyH_take (i := 3) (v := ?_) (by simp only [List.getElem?_toArray, List.getElem?_cons_succ, List.getElem?_cons_zero]; rfl) (by kernel_rfl) (by kernel_rfl) (by kernel_rfl) (by exact fun _ _ _ h => h) (Or.inl ⟨by rfl, ?_⟩) hHeld ?_
  rotate_left
  · intro w hSw; (try dsimp only at hSw); go_simp; (try with_reducible rfl)
  try simp only [Act.put, List.setIfInBounds_toArray, List.set_cons_zero, List.set_cons_succ]
  refine wpAnyH_take (i := 4) (v := ?_) (by simp only [List.getElem?_toArray, List.getElem?_cons_succ, List.getElem?_cons_zero]; rfl) (by kernel_rfl) (by kernel_rfl) (by kernel_rfl) (by exact fun _ _ _ h => h) (Or.inl ⟨by rfl, ?_⟩) hHeld ?_
  rotate_left
  · intro w hSw; (try dsimp only at hSw); go_simp; (try with_reducible rfl)
  try simp only [Act.put, List.setIfInBounds_toArray, List.set_cons_zero, List.set_cons_succ]
  refine wpAnyH_take (i := 6) (v := ?_) (by simp only [List.getElem?_toArray, List.getElem?_cons_succ, List.getElem?_cons_zero]; rfl) (by kernel_rfl) (by kernel_rfl) (by kernel_rfl) (by exact fun _ _ _ h => h) (Or.inl ⟨by rfl, ?_⟩) hHeld ?_
  rotate_left
  · intro w hSw; (try dsimp only at hSw); go_simp; (try with_reducible rfl)
  try simp only [Act.put, List.setIfInBounds_toArray, List.set_cons_zero, List.set_cons_succ]
  refine wpAnyH_take (i := 7) (v := ?_) (by simp only [List.getElem?_toArray, List.getElem?_cons_succ, List.getElem?_cons_zero]; rfl) (by kernel_rfl) (by kernel_rfl) (by kernel_rfl) (by exact fun _ _ _ h => h) (Or.inl ⟨by rfl, ?_⟩) hHeld ?_
  rotate_left
  · intro w hSw; (try dsimp only at hSw); go_simp; (try with_reducible rfl)
  try simp only [Act.put, List.setIfInBounds_toArray, List.set_cons_zero, List.set_cons_succ]
  refine wpAnyH_take (i := 8) (v := ?_) (by simp only [List.getElem?_toArray, List.getElem?_cons_succ, List.getElem?_cons_zero]; rfl) (by kernel_rfl) (by kernel_rfl) (by kernel_rfl) (by exact fun _ _ _ h => h) (Or.inl ⟨by rfl, ?_⟩) hHeld ?_
  rotate_left
  · intro w hSw; (try dsimp only at hSw); go_simp; (try with_reducible rfl)
  try simp only [Act.put, List.setIfInBounds_toArray, List.set_cons_zero, List.set_cons_succ]
  refine wpAnyH_take (i := 9) (v := ?_) (by simp only [List.getElem?_toArray, List.getElem?_cons_succ, List.getElem?_cons_zero]; rfl) (by kernel_rfl) (by kernel_rfl) (by kernel_rfl) (by exact fun _ _ _ h => h) (Or.inl ⟨by rfl, ?_⟩) hHeld ?_
  rotate_left
  · intro w hSw; (try dsimp only at hSw); go_simp; (try with_reducible rfl)
  try simp only [Act.put, List.setIfInBounds_toArray, List.set_cons_zero, List.set_cons_succ]
  refine wpAnyH_take (i := 10) (v := ?_) (by simp only [List.getElem?_toArray, List.getElem?_cons_succ, List.getElem?_cons_zero]; rfl) (by kernel_rfl) (by kernel_rfl) (by kernel_rfl) (by exact fun _ _ _ h => h) (Or.inl ⟨by rfl, ?_⟩) hHeld ?_
  rotate_left
  · intro w hSw; (try dsimp only at hSw); go_simp; (try with_reducible rfl)
  try simp only [Act.put, List.setIfInBounds_toArray, List.set_cons_zero, List.set_cons_succ]
  refine wpAnyH_ready (rs := [5]) (by kernel_rfl) (by simp) ?_
  refine AllReadyH.cons (by simp only [List.getElem?_toArray, List.getElem?_cons_succ, List.getElem?_cons_zero]; rfl) (fun kC hkC => ?_) AllReadyH.nil
  go_simp
  refine (rnode_lit 2 2 4 0 2 t l 0 _ HG0.out _).mono ?_; rintro e w2 ⟨rfl, hk2⟩; have hb2 := hbd.no hk2; have hm2 := hmd.keep hk2 (fun f => f) (fun _ _ f => f)
  (try go_wp2_with fail)
  refine hkC.out _ _ (hb2.two) (fun hHeld => ?_)
  clear hkC kC
  try simp only [Act.put, List.setIfInBounds_toArray, List.set_cons_zero, List.set_cons_succ]
  refine wpAnyH_ready (rs := [11]) (by kernel_rfl) (by simp) ?_
  refine AllReadyH.cons (by simp only [List.getElem?_toArray, List.getElem?_cons_succ, List.getElem?_cons_zero]; rfl) (fun kC hkC => ?_) AllReadyH.nil
  go_simp
  refine (rnode_lit 2 2 4 0 2 t l 1 _ HG1.out _).mono ?_; rintro e w3 ⟨rfl, hk3⟩; have hb3 := hb2.no hk3; have hm3 := hm2.keep hk3 (fun f => f) (fun _ _ f => f)
  (try go_wp2_with fail)
  refine hkC.out _ _ (hb3.two) (fun hHeld => ?_)
  clear hkC kC
  try simp only [Act.put, List.setIfInBounds_toArray, List.set_cons_zero, List.set_cons_succ]
  refine wpAnyH_take (i := 12) (v := ?_) (by simp only [List.getElem?_toArray, List.getElem?_cons_succ, List.getElem?_cons_zero]; rfl) (by kernel_rfl) (by kernel_rfl) (by kernel_rfl) (by exact fun _ _ _ h => h) (Or.inl ⟨by rfl, ?_⟩) hHeld ?_
  rotate_left
  · intro w hSw; (try dsimp only at hSw); go_simp; (try with_reducible rfl)
  try simp only [Act.put, List.setIfInBounds_toArray, List.set_cons_zero, List.set_cons_succ]
  refine wpAnyH_take (i := 13) (v := ?_) (by simp only [List.getElem?_toArray, List.getElem?_cons_succ, List.getElem?_cons_zero]; rfl) (by kernel_rfl) (by kernel_rfl) (by kernel_rfl) (by exact fun _ _ _ h => h) (Or.inl ⟨by rfl, ?_⟩) hHeld ?_
  rotate_left
  · intro w hSw; (try dsimp only at hSw); go_simp; (try with_reducible rfl)
  try simp only [Act.put, List.setIfInBounds_toArray, List.set_cons_zero, List.set_cons_succ]
  refine wpAnyH_done (by kernel_rfl) ?_ _
  go_wp2_with fail
  have hbe := hb3.no ((Keeps.refl NoS w3).drew)
  have hme := hm3.keep ((Keeps.refl NoS w3).drew) (fun f => f) (fun _ _ f => f)
  refine wp_region_held_drew (S := (fun w' => (w'.cell? ⟨B, 0, none⟩ = some (.int .i64 2) ∧ w'.cell? ⟨B, 1, none⟩ = some (.int .i64 2) ∧ w'.cell? ⟨B, 2, none⟩ = some (.int .i64 4) ∧ w'.cell? ⟨B, 3, none⟩ = some (.int .i64 0) ∧ w'.cell? ⟨B, 4, none⟩ = some (.int .i64 2)) ∧ (w'.cell? ⟨(B + 1), 0, none⟩ = some (.int .i64 t) ∧ w'.cell? ⟨(B + 1), 1, none⟩ = some (.int .i64 l) ∧ w'.cell? ⟨(B + 1), 2, none⟩ = some (.int .i64 s) ∧ w'.cell? ⟨(B + 1), 3, none⟩ = some (.bool r) ∧ w'.cell? ⟨(B + 1), 4, none⟩ = some (.int .i64 x)))) (by kernel_rfl) (hbe.two) (fun hHeld => ?_)
  refine wpAnyH_take (i := 0) (v := ?_) (by simp only [List.getElem?_toArray, List.getElem?_cons_succ, List.getElem?_cons_zero]; rfl) (by kernel_rfl) (by kernel_rfl) (by kernel_rfl) (by exact fun _ _ _ h => h) (Or.inl ⟨by rfl, ?_⟩) hHeld ?_
  rotate_left
  · intro w hSw; (try dsimp only at hSw); go_simp; (try with_reducible rfl)
  try simp only [Act.put, List.setIfInBounds_toArray, List.set_cons_zero, List.set_cons_succ]
  refine wpAnyH_take (i := 1) (v := ?_) (by simp only [List.getElem?_toArray, List.getElem?_cons_succ, List.getElem?_cons_zero]; rfl) (by kernel_rfl) (by kernel_rfl) (by kernel_rfl) (by exact fun _ _ _ h => h) (Or.inl ⟨by rfl, ?_⟩) hHeld ?_
  rotate_left
  · intro w hSw; (try dsimp only at hSw); go_simp; (try with_reducible rfl)
  try simp only [Act.put, List.setIfInBounds_toArray, List.set_cons_zero, List.set_cons_succ]
  refine wpAnyH_take (i := 2) (v := ?_) (by simp only [List.getElem?_toArray, List.getElem?_cons_succ, List.getElem?_cons_zero]; rfl) (by kernel_rfl) (by kernel_rfl) (by kernel_rfl) (by exact fun _ _ _ h => h) (Or.inl ⟨by rfl, ?_⟩) hHeld ?_
  rotate_left
  · intro w hSw; (try dsimp only at hSw); go_simp; (try with_reducible rfl)
  try simp only [Act.put, List.setIfInBounds_toArray, List.set_cons_zero, List.set_cons_succ]
  refine wpAnyH_take (i := 4) (v := ?_) (by simp only [List.getElem?_toArray, List.getElem?_cons_succ, List.getElem?_cons_zero]; rfl) (by kernel_rfl) (by kernel_rfl) (by kernel_rfl) (by exact fun _ _ _ h => h) (Or.inl ⟨by rfl, ?_⟩) hHeld ?_
  rotate_left
  · intro w hSw; (try dsimp only at hSw); go_simp; (try with_reducible rfl)
  try simp only [Act.put, List.setIfInBounds_toArray, List.set_cons_zero, List.set_cons_succ]
  refine wpAnyH_take (i := 5) (v := ?_) (by simp only [List.getElem?_toArray, List.getElem?_cons_succ, List.getElem?_cons_zero]; rfl) (by kernel_rfl) (by kernel_rfl) (by kernel_rfl) (by exact fun _ _ _ h => h) (Or.inl ⟨by rfl, ?_⟩) hHeld ?_
  rotate_left
  · intro w hSw; (try dsimp only at hSw); go_simp; (try with_reducible rfl)
  try simp only [Act.put, List.setIfInBounds_toArray, List.set_cons_zero, List.set_cons_succ]
  refine wpAnyH_take (i := 6) (v := ?_) (by simp only [List.getElem?_toArray, List.getElem?_cons_succ, List.getElem?_cons_zero]; rfl) (by kernel_rfl) (by kernel_rfl) (by kernel_rfl) (by exact fun _ _ _ h => h) (Or.inl ⟨by rfl, ?_⟩) hHeld ?_
  rotate_left
  · intro w hSw; (try dsimp only at hSw); go_simp; (try with_reducible rfl)
  try simp only [Act.put, List.setIfInBounds_toArray, List.set_cons_zero, List.set_cons_succ]
  refine wpAnyH_take (i := 7) (v := ?_) (by simp only [List.getElem?_toArray, List.getElem?_cons_succ, List.getElem?_cons_zero]; rfl) (by kernel_rfl) (by kernel_rfl) (by kernel_rfl) (by exact fun _ _ _ h => h) (Or.inl ⟨by rfl, ?_⟩) hHeld ?_
  rotate_left
  · intro w hSw; (try dsimp only at hSw); go_simp; (try with_reducible rfl)
  try simp only [Act.put, List.setIfInBounds_toArray, List.set_cons_zero, List.set_cons_succ]
  refine wpAnyH_take (i := 8) (v := ?_) (by simp only [List.getElem?_toArray, List.getElem?_cons_succ, List.getElem?_cons_zero]; rfl) (by kernel_rfl) (by kernel_rfl) (by kernel_rfl) (by exact fun _ _ _ h => h) (Or.inl ⟨by rfl, ?_⟩) hHeld ?_
  rotate_left
  · intro w hSw; (try dsimp only at hSw); go_simp; (try with_reducible rfl)
  try simp only [Act.put, List.setIfInBounds_toArray, List.set_cons_zero, List.set_cons_succ]
  refine wpAnyH_ready (rs := [3]) (by kernel_rfl) (by simp) ?_
  refine AllReadyH.cons (by simp only [List.getElem?_toArray, List.getElem?_cons_succ, List.getElem?_cons_zero]; rfl) (fun kC hkC => ?_) AllReadyH.nil
  go_simp
  refine (rlock_lit 2 2 4 0 2 l 0 _ HTL.out _).mono ?_; rintro e w5 ⟨rfl, hk5⟩; have hb5 := hbe.no hk5; have hm5 := hme.keep hk5 (fun f => f) (fun _ _ f => f)
  (try go_wp2_with fail)
  refine hkC.out _ _ (hb5.two) (fun hHeld => ?_)
  clear hkC kC
  try simp only [Act.put, List.setIfInBounds_toArray, List.set_cons_zero, List.set_cons_succ]
  refine wpAnyH_ready (rs := [9]) (by kernel_rfl) (by simp) ?_
  refine AllReadyH.cons (by simp only [List.getElem?_toArray, List.getElem?_cons_succ, List.getElem?_cons_zero]; rfl) (fun kC hkC => ?_) AllReadyH.nil
  go_simp
  refine (HID.out _).mono ?_; rintro e w6 ⟨rfl, hk6⟩; have hb6 := hb5.no hk6; have hm6 := hm5.keep hk6 (fun f => f) (fun _ _ f => f)
  (try go_wp2_with fail)
  refine hkC.out _ _ (hb6.two) (fun hHeld => ?_)
  clear hkC kC
  try simp only [Act.put, List.setIfInBounds_toArray, List.set_cons_zero, List.set_cons_succ]
  refine wpAnyH_take (i := 10) (v := ?_) (by simp only [List.getElem?_toArray, List.getElem?_cons_succ, List.getElem?_cons_zero]; rfl) (by kernel_rfl) (by kernel_rfl) (by kernel_rfl) (by exact fun _ _ _ h => h) (Or.inl ⟨by rfl, ?_⟩) hHeld ?_
  rotate_left
  · intro w hSw; (try dsimp only at hSw); go_simp; (try with_reducible rfl)
  try simp only [Act.put, List.setIfInBounds_toArray, List.set_cons_zero, List.set_cons_succ]
  refine wpAnyH_take (i := 11) (v := ?_) (by simp only [List.getElem?_toArray, List.getElem?_cons_succ, List.getElem?_cons_zero]; rfl) (by kernel_rfl) (by kernel_rfl) (by kernel_rfl) (by exact fun _ _ _ h => h) (Or.inl ⟨by rfl, ?_⟩) hHeld ?_
  rotate_left
  · intro w hSw; (try dsimp only at hSw); go_simp; (try with_reducible rfl)
  try simp only [Act.put, List.setIfInBounds_toArray, List.set_cons_zero, List.set_cons_succ]
  refine wpAnyH_done (by kernel_rfl) ?_ _
  have hk06 := (((((((HK.out.trans hk1).trans (Keeps.refl NoS w1).drew).trans hk2).trans hk3).trans (Keeps.refl NoS w3).drew).trans hk5).trans hk6)
  have HB6 := Lib.hid hb6; have HM6 := Lib.hid hm6; have HK6 := Lib.hid hk06
  clear hb6 hm6 hk06 hb5 hm5 hbe hme hb3 hm3 hb2 hm2 hbd hmd hb1 hm1 m0 m1 m2 m3 m4 c0 c1 c2 c3 c4 r0 r1 r2 r3 r4 f0 f1 f2 f3 f4 g0 g1 g2 g3 g4 z1 z2
  obtain ⟨⟨m0, m1, m2, m3, m4⟩, ⟨c0, c1, c2, c3, c4⟩, ⟨r0, r1, r2, r3, r4⟩, ⟨f0, f1, f2, f3, f4⟩, ⟨g0, g1, g2, g3, g4⟩, z1, z2⟩ := HB6.out.facts
  go_wp2_with fail
  have hm := HM6.out
  have hkk : Keeps (own2m a v) w w6 := HK6.out.no
  refine bodyPost_ret (v := .agg #[.int .i64 t, .int .i64 l, .int .i64 s, .bool r, .int .i64 x]) (by simp [results, Try.results34, go_sem, *]) rfl ⟨rfl, ?_, ?_⟩
  · repeat (first | (with_reducible exact hm) | refine MemT.set (B := B) ?_ ha HV.out _ (by show B ≤ _; dsimp only; omega) _)
  · repeat (first | (with_reducible exact hkk) | refine kset HB.out ?_ _ (by show B ≤ _; dsimp only; omega) _)
end Go.Proofs.Ytjchcmomppfilaa
