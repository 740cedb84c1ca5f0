/- vclock.Start, and the document's StartBump, StepBump: each with what it computes. -/
import Derived.Test.YtodaiogefgdcpaaClockStep
namespace Go.Proofs.Ytodaiogefgdcpaa
open Go.RowKit
set_option maxHeartbeats 1000000 in
set_option maxRecDepth 100000 in
theorem start_any (e c : Int) (w : World) : Calls Try.prog 37 #[.int .i64 e, .int .i64 c] w fun r w' => r = .returned (bumpV (startB e c)) ∧ Keeps NoS w w' := by
  unfold startB
  by_cases h2 : e = 2
  · subst h2
    rw [if_pos rfl]
    unfold bumpV; dsimp only
    go_enter Try.func37, Try.ntmps37
    go_wp2_with fail
    refine bodyPost_ret (v := .agg #[.int .i64 3, .int .i64 0, .int .i64 0, .int .i64 0]) (by simp [results, Try.results37, go_sem, *]) rfl ⟨rfl, ?_⟩
    exact (Keeps.refl NoS w).alloc _
  · rw [if_neg h2]
    have h2' : (e == 2) = false := beq_eq_false_iff_ne.2 h2
    by_cases h1 : e = 1
    · subst h1
      by_cases c1 : c = 1
      · subst c1
        rw [if_pos ⟨rfl, rfl⟩]
        unfold bumpV; dsimp only
        go_enter Try.func37, Try.ntmps37
        go_wp2_with fail
        refine bodyPost_ret (v := .agg #[.int .i64 1, .int .i64 0, .int .i64 0, .int .i64 0]) (by simp [results, Try.results37, go_sem, *]) rfl ⟨rfl, ?_⟩
        exact (Keeps.refl NoS w).alloc _
      · rw [if_neg (fun h => c1 h.2)]
        have c1' : (c == 1) = false := beq_eq_false_iff_ne.2 c1
        by_cases c2 : c = 2
        · subst c2
          rw [if_pos ⟨rfl, rfl⟩]
          unfold bumpV; dsimp only
          go_enter Try.func37, Try.ntmps37
          go_wp2_with fail
          refine bodyPost_ret (v := .agg #[.int .i64 2, .int .i64 0, .int .i64 0, .int .i64 0]) (by simp [results, Try.results37, go_sem, *]) rfl ⟨rfl, ?_⟩
          exact (Keeps.refl NoS w).alloc _
        · rw [if_neg (fun h => c2 h.2)]
          have c2' : (c == 2) = false := beq_eq_false_iff_ne.2 c2
          unfold bumpV; dsimp only
          go_enter Try.func37, Try.ntmps37
          go_wp2_with fail
          refine bodyPost_ret (v := .agg #[.int .i64 0, .int .i64 0, .int .i64 0, .int .i64 0]) (by simp [results, Try.results37, go_sem, *]) rfl ⟨rfl, ?_⟩
          exact (Keeps.refl NoS w).alloc _
    · rw [if_neg (fun h => h1 h.1), if_neg (fun h => h1 h.1)]
      have h1' : (e == 1) = false := beq_eq_false_iff_ne.2 h1
      unfold bumpV; dsimp only
      go_enter Try.func37, Try.ntmps37
      go_wp2_with fail
      refine bodyPost_ret (v := .agg #[.int .i64 0, .int .i64 0, .int .i64 0, .int .i64 0]) (by simp [results, Try.results37, go_sem, *]) rfl ⟨rfl, ?_⟩
      exact (Keeps.refl NoS w).alloc _
set_option maxHeartbeats 1000000 in
set_option maxRecDepth 100000 in
theorem rstart_any (e c : Int) (w : World) : Calls Try.prog 54 #[.int .i64 e, .int .i64 c] w fun r w' => r = .returned (bumpV (startB e c)) ∧ Keeps NoS w w' := by
  unfold startB
  by_cases h2 : e = 2
  · subst h2
    rw [if_pos rfl]
    unfold bumpV; dsimp only
    go_enter Try.func54, Try.ntmps54
    go_wp2_with fail
    refine bodyPost_ret (v := .agg #[.int .i64 3, .int .i64 0, .int .i64 0, .int .i64 0]) (by simp [results, Try.results54, go_sem, *]) rfl ⟨rfl, ?_⟩
    exact (Keeps.refl NoS w).alloc _
  · rw [if_neg h2]
    have h2' : (e == 2) = false := beq_eq_false_iff_ne.2 h2
    by_cases h1 : e = 1
    · subst h1
      by_cases c1 : c = 1
      · subst c1
        rw [if_pos ⟨rfl, rfl⟩]
        unfold bumpV; dsimp only
        go_enter Try.func54, Try.ntmps54
        go_wp2_with fail
        refine bodyPost_ret (v := .agg #[.int .i64 1, .int .i64 0, .int .i64 0, .int .i64 0]) (by simp [results, Try.results54, go_sem, *]) rfl ⟨rfl, ?_⟩
        exact (Keeps.refl NoS w).alloc _
      · rw [if_neg (fun h => c1 h.2)]
        have c1' : (c == 1) = false := beq_eq_false_iff_ne.2 c1
        by_cases c2 : c = 2
        · subst c2
          rw [if_pos ⟨rfl, rfl⟩]
          unfold bumpV; dsimp only
          go_enter Try.func54, Try.ntmps54
          go_wp2_with fail
          refine bodyPost_ret (v := .agg #[.int .i64 2, .int .i64 0, .int .i64 0, .int .i64 0]) (by simp [results, Try.results54, go_sem, *]) rfl ⟨rfl, ?_⟩
          exact (Keeps.refl NoS w).alloc _
        · rw [if_neg (fun h => c2 h.2)]
          have c2' : (c == 2) = false := beq_eq_false_iff_ne.2 c2
          unfold bumpV; dsimp only
          go_enter Try.func54, Try.ntmps54
          go_wp2_with fail
          refine bodyPost_ret (v := .agg #[.int .i64 0, .int .i64 0, .int .i64 0, .int .i64 0]) (by simp [results, Try.results54, go_sem, *]) rfl ⟨rfl, ?_⟩
          exact (Keeps.refl NoS w).alloc _
    · rw [if_neg (fun h => h1 h.1), if_neg (fun h => h1 h.1)]
      have h1' : (e == 1) = false := beq_eq_false_iff_ne.2 h1
      unfold bumpV; dsimp only
      go_enter Try.func54, Try.ntmps54
      go_wp2_with fail
      refine bodyPost_ret (v := .agg #[.int .i64 0, .int .i64 0, .int .i64 0, .int .i64 0]) (by simp [results, Try.results54, go_sem, *]) rfl ⟨rfl, ?_⟩
      exact (Keeps.refl NoS w).alloc _
set_option maxHeartbeats 8000000 in
set_option maxRecDepth 100000 in
theorem rstep_any (ms ml mt mc md k s x y : Int) (a : Nat) (v : Value) (M : MemS) (w : World) (hA : RefAt w a v M) (hsz : sizeP ⟨ms, ml, mt, mc, md⟩ = (M.L.length : Int)) : Calls Try.prog 51 #[.agg #[.int .i64 ms, .int .i64 ml, .int .i64 mt, .int .i64 mc, .int .i64 md], .pointer (some ⟨a, 0, none⟩), .agg #[.int .i64 k, .int .i64 s, .int .i64 x, .int .i64 y]] w fun e w' => e = .returned (bumpV (stepB ⟨ms, ml, mt, mc, md⟩ M ⟨k, s, x, y⟩).2) ∧ RefAt w' a v (stepB ⟨ms, ml, mt, mc, md⟩ M ⟨k, s, x, y⟩).1 ∧ Keeps (own2m a v) w w' := by
  have hbx := b3_new w ms ml mt mc md k s x y 43 85
  have hk : Keeps NoS w (((w.alloc (.cells #[.int .i64 ms, .int .i64 ml, .int .i64 mt, .int .i64 mc, .int .i64 md] 43)).alloc (.cells #[.int .i64 k, .int .i64 s, .int .i64 x, .int .i64 y] 85)).alloc (.cells #[.int .i64 0, .int .i64 0, .int .i64 0, .int .i64 0] 85)) := (((Keeps.refl NoS w).alloc _).alloc _).alloc _
  have ha := blk_lt hA.hd
  have hv : ∀ g, v.ownBlock = some g → g < w.heap.size := fun g hg => hA.own_lt hg
  have hA2 := hA.keep hk (fun f => f) (fun _ _ f => f)
  obtain ⟨B, hB⟩ : ∃ B, w.heap.size = B := ⟨_, rfl⟩
  rw [hB] at hbx hv ha
  have HB := Lib.hid hB; have HA2 := Lib.hid hA2; have HK := Lib.hid hk; have HV := Lib.hid hv; have HBX := Lib.hid hbx
  clear hbx hk hv hA2 hA hB
  unfold stepB
  obtain ⟨my, hmy⟩ : ∃ my, mayB ⟨ms, ml, mt, mc, md⟩ = my := ⟨_, rfl⟩
  have hok : okB ⟨ms, ml, mt, mc, md⟩ M.L.length s = (my && decide (0 ≤ s) && decide (s ≤ 1)) := by unfold okB; rw [hsz, hmy, decide_eq_true (Int.le_refl _), Bool.and_true]
  have hln := @ok_len ⟨ms, ml, mt, mc, md⟩ M.L.length s
  have hcl : clockP ⟨ms, ml, mt, mc, md⟩ = if my then 0 else -1 := by unfold clockP; rw [hmy]
  have hsq : seqP ⟨ms, ml, mt, mc, md⟩ = if my then 1 else -1 := by unfold seqP; rw [hmy]
  have hl2 : my = true → 2 ≤ M.L.length := by
    intro h
    rw [h] at hmy
    have hM := may_of hmy
    have hb := starts_bd hM
    have hs : sizeP ⟨ms, ml, mt, mc, md⟩ = p7 ⟨ms, ml, mt, mc, md⟩ := by simp [sizeP, hmy]
    have e1 : p1 ⟨ms, ml, mt, mc, md⟩ = 2 + ms := rfl
    omega
  dsimp only
  rw [hok]
  clear hmy hsz hok hln
  cases my with
  | false =>
    rw [Bool.false_and, Bool.false_and, if_neg (by decide)]
    rw [if_neg (by decide)] at hcl hsq
    have HCL := Lib.hid hcl; have HSQ := Lib.hid hsq
    clear hcl hsq hl2
    by_cases k3 : k = 3
    · subst k3
      unfold bumpV
      dsimp only
      go_enter Try.func51, Try.ntmps51
      go_wp2_with fail
      refine (rclock_lit ms ml mt mc md (-1) HCL.out _).mono ?_
      rintro e w1 ⟨rfl, hk1⟩
      have hb1 := HBX.out.no hk1
      have hA3 := HA2.out.keep hk1 (fun f => f) (fun _ _ f => f)
      have HK1 := Lib.hid (HK.out.trans hk1)
      obtain ⟨⟨m0, m1, m2, m3, m4⟩, ⟨c0, c1, c2, c3⟩, ⟨r0, r1, r2, r3⟩, ⟨f0, f1, f2, f3⟩, ⟨g0, g1, g2, g3⟩, z1, z2⟩ := hb1.facts
      have HBL := Lib.hid hb1
      clear hb1
      rw [HB.out]
      go_wp2_with (go_at_call 84; refine (rseq_lit ms ml mt mc md (-1) HSQ.out _).mono ?_; rintro e w2 ⟨rfl, hk2⟩; have hb2 := HBL.out.no hk2; have hA4 := hA3.keep hk2 (fun f => f) (fun _ _ f => f); have HK2 := Lib.hid (HK1.out.trans hk2); obtain ⟨⟨p0, p1, p2, p3, p4⟩, ⟨n0, n1, n2, n3⟩, ⟨q0, q1, q2, q3⟩, ⟨u0, u1, u2, u3⟩, ⟨v0, v1, v2, v3⟩, z3, z4⟩ := hb2.facts; have HBL2 := Lib.hid hb2; clear hb2)
      refine bodyPost_ret (v := .agg #[.int .i64 3, .int .i64 s, .int .i64 x, .int .i64 y]) (by simp [results, Try.results51, go_sem, *]) rfl ⟨rfl, ?_, ?_⟩
      · repeat (first | (with_reducible exact hA4) | refine MemT.set (B := B) ?_ ha HV.out _ (by show B ≤ _; dsimp only; omega) _)
      · repeat (first | (with_reducible exact (HK2.out.no)) | refine kset HB.out ?_ _ (by show B ≤ _; dsimp only; omega) _)
    · have k3' : (k == 3) = false := beq_eq_false_iff_ne.2 k3
      clear k3
      unfold bumpV
      dsimp only
      go_enter Try.func51, Try.ntmps51
      go_wp2_with fail
      refine (rclock_lit ms ml mt mc md (-1) HCL.out _).mono ?_
      rintro e w1 ⟨rfl, hk1⟩
      have hb1 := HBX.out.no hk1
      have hA3 := HA2.out.keep hk1 (fun f => f) (fun _ _ f => f)
      have HK1 := Lib.hid (HK.out.trans hk1)
      obtain ⟨⟨m0, m1, m2, m3, m4⟩, ⟨c0, c1, c2, c3⟩, ⟨r0, r1, r2, r3⟩, ⟨f0, f1, f2, f3⟩, ⟨g0, g1, g2, g3⟩, z1, z2⟩ := hb1.facts
      have HBL := Lib.hid hb1
      clear hb1
      rw [HB.out]
      go_wp2_with fail
      refine bodyPost_ret (v := .agg #[.int .i64 k, .int .i64 s, .int .i64 x, .int .i64 y]) (by simp [results, Try.results51, go_sem, *]) rfl ⟨rfl, ?_, ?_⟩
      · repeat (first | (with_reducible exact hA3) | refine MemT.set (B := B) ?_ ha HV.out _ (by show B ≤ _; dsimp only; omega) _)
      · repeat (first | (with_reducible exact (HK1.out.no)) | refine kset HB.out ?_ _ (by show B ≤ _; dsimp only; omega) _)
  | true =>
    rw [if_pos rfl] at hcl hsq
    have HCL := Lib.hid hcl; have HSQ := Lib.hid hsq
    have h2 := hl2 rfl
    have hn0 : 0 < M.L.length := by omega
    have hn1 : 1 < M.L.length := by omega
    clear hcl hsq hl2 h2
    have hsp : (s = 0 ∨ s = 1) ∨ ¬ (0 ≤ s ∧ s ≤ 1) := by omega
    have hrs : (if (true && decide (0 ≤ s) && decide (s ≤ 1)) = true then stepK M ⟨k, s, x, y⟩ else (M, ⟨k, s, x, y⟩)) = if s = 0 ∨ s = 1 then stepK M ⟨k, s, x, y⟩ else (M, ⟨k, s, x, y⟩) := by
      by_cases h : s = 0 ∨ s = 1
      · rw [if_pos h, if_pos (by simp; omega)]
      · rw [if_neg h, if_neg (by simp; omega)]
    rw [hrs]
    clear hrs
    have hkp : k = 1 ∨ k = 2 ∨ k = 3 ∨ (¬ k = 1 ∧ ¬ k = 2 ∧ ¬ k = 3) := by omega
    unfold stepK
    dsimp only
    rcases hkp with rfl | rfl | rfl | ⟨k1, k2, k3⟩
    · rw [if_pos (show (1 : Int) = 1 from rfl)]
      rcases hsp with (rfl | rfl) | hns
      · rw [if_pos (.inl rfl), if_pos rfl]
        obtain ⟨st, hst⟩ : ∃ st, wrap64 (M.word 0 + 1) = st := ⟨_, rfl⟩
        have hst' : IntKind.i64.wrap (M.word 0 + 1) = st := (IntWalk.i64_left _).trans hst
        rw [hst]
        clear hst
        unfold bumpV
        dsimp only
        go_enter Try.func51, Try.ntmps51
        go_wp2_with fail
        refine (rclock_lit ms ml mt mc md (0) HCL.out _).mono ?_
        rintro e w1 ⟨rfl, hk1⟩
        have hb1 := HBX.out.no hk1
        have hA3 := HA2.out.keep hk1 (fun f => f) (fun _ _ f => f)
        have HK1 := Lib.hid (HK.out.trans hk1)
        obtain ⟨⟨m0, m1, m2, m3, m4⟩, ⟨c0, c1, c2, c3⟩, ⟨r0, r1, r2, r3⟩, ⟨f0, f1, f2, f3⟩, ⟨g0, g1, g2, g3⟩, z1, z2⟩ := hb1.facts
        have HBL := Lib.hid hb1
        clear hb1
        rw [HB.out]
        go_wp2_with (go_at_call 72; refine (radd_ok a v M 0 1 _ hA3 hn0).mono ?_; rintro e w5 ⟨rfl, hm5, hk5⟩; have hb5 := HBL.out.own hk5 ha HV.out; obtain ⟨⟨M0, M1, M2, M3, M4⟩, ⟨C0, C1, C2, C3⟩, ⟨R0, R1, R2, R3⟩, ⟨F0, F1, F2, F3⟩, ⟨G0, G1, G2, G3⟩, Z1, Z2⟩ := hb5.facts; clear hb5)
        refine bodyPost_ret (v := .agg #[.int .i64 1, .int .i64 9, .int .i64 x, .int .i64 st]) (by simp [results, Try.results51, go_sem, *]) rfl ⟨rfl, ?_, ?_⟩
        · repeat (first | (with_reducible exact hm5) | refine MemT.set (B := B) ?_ ha HV.out _ (by show B ≤ _; dsimp only; omega) _)
        · repeat (first | (with_reducible exact (HK1.out.no.trans hk5)) | refine kset HB.out ?_ _ (by show B ≤ _; dsimp only; omega) _)
      · rw [if_pos (.inr rfl), if_neg (by decide)]
        unfold bumpV
        dsimp only
        go_enter Try.func51, Try.ntmps51
        go_wp2_with fail
        refine (rclock_lit ms ml mt mc md (0) HCL.out _).mono ?_
        rintro e w1 ⟨rfl, hk1⟩
        have hb1 := HBX.out.no hk1
        have hA3 := HA2.out.keep hk1 (fun f => f) (fun _ _ f => f)
        have HK1 := Lib.hid (HK.out.trans hk1)
        obtain ⟨⟨m0, m1, m2, m3, m4⟩, ⟨c0, c1, c2, c3⟩, ⟨r0, r1, r2, r3⟩, ⟨f0, f1, f2, f3⟩, ⟨g0, g1, g2, g3⟩, z1, z2⟩ := hb1.facts
        have HBL := Lib.hid hb1
        clear hb1
        rw [HB.out]
        go_wp2_with fail
        refine bodyPost_ret (v := .agg #[.int .i64 1, .int .i64 1, .int .i64 x, .int .i64 y]) (by simp [results, Try.results51, go_sem, *]) rfl ⟨rfl, ?_, ?_⟩
        · repeat (first | (with_reducible exact hA3) | refine MemT.set (B := B) ?_ ha HV.out _ (by show B ≤ _; dsimp only; omega) _)
        · repeat (first | (with_reducible exact (HK1.out.no)) | refine kset HB.out ?_ _ (by show B ≤ _; dsimp only; omega) _)
      · rw [if_neg (by omega)]
        have s0 : (s == 0) = false := beq_eq_false_iff_ne.2 (by omega)
        have s1 : (s == 1) = false := beq_eq_false_iff_ne.2 (by omega)
        clear hns
        unfold bumpV
        dsimp only
        go_enter Try.func51, Try.ntmps51
        go_wp2_with fail
        refine (rclock_lit ms ml mt mc md (0) HCL.out _).mono ?_
        rintro e w1 ⟨rfl, hk1⟩
        have hb1 := HBX.out.no hk1
        have hA3 := HA2.out.keep hk1 (fun f => f) (fun _ _ f => f)
        have HK1 := Lib.hid (HK.out.trans hk1)
        obtain ⟨⟨m0, m1, m2, m3, m4⟩, ⟨c0, c1, c2, c3⟩, ⟨r0, r1, r2, r3⟩, ⟨f0, f1, f2, f3⟩, ⟨g0, g1, g2, g3⟩, z1, z2⟩ := hb1.facts
        have HBL := Lib.hid hb1
        clear hb1
        rw [HB.out]
        go_wp2_with fail
        refine bodyPost_ret (v := .agg #[.int .i64 1, .int .i64 s, .int .i64 x, .int .i64 y]) (by simp [results, Try.results51, go_sem, *]) rfl ⟨rfl, ?_, ?_⟩
        · repeat (first | (with_reducible exact hA3) | refine MemT.set (B := B) ?_ ha HV.out _ (by show B ≤ _; dsimp only; omega) _)
        · repeat (first | (with_reducible exact (HK1.out.no)) | refine kset HB.out ?_ _ (by show B ≤ _; dsimp only; omega) _)
    · rw [if_neg (show ¬ (2 : Int) = 1 by decide), if_neg (show ¬ (2 : Int) = 3 by decide), if_pos (show (2 : Int) = 2 from rfl)]
      rcases hsp with (rfl | rfl) | hns
      · rw [if_pos (.inl rfl), if_pos rfl]
        have a1 := and_1 (M.word 0)
        obtain ⟨wd, hwd⟩ : ∃ wd, M.word 0 = wd := ⟨_, rfl⟩
        unfold lookB
        dsimp only
        rw [hwd] at a1
        rw [hwd]
        have HWD := Lib.hid hwd
        clear hwd
        rw [if_pos (.inl rfl)]
        unfold bumpV
        dsimp only
        go_enter Try.func51, Try.ntmps51
        go_wp2_with fail
        refine (rclock_lit ms ml mt mc md (0) HCL.out _).mono ?_
        rintro e w1 ⟨rfl, hk1⟩
        have hb1 := HBX.out.no hk1
        have hA3 := HA2.out.keep hk1 (fun f => f) (fun _ _ f => f)
        have HK1 := Lib.hid (HK.out.trans hk1)
        obtain ⟨⟨m0, m1, m2, m3, m4⟩, ⟨c0, c1, c2, c3⟩, ⟨r0, r1, r2, r3⟩, ⟨f0, f1, f2, f3⟩, ⟨g0, g1, g2, g3⟩, z1, z2⟩ := hb1.facts
        have HBL := Lib.hid hb1
        clear hb1
        rw [HB.out]
        go_wp2_with (first
          | (go_at_call 73; refine (rload_ok a v M 0 _ hA3 hn0).mono ?_; rw [HWD.out]; rintro e w5 ⟨rfl, hm5, hk5⟩; have hk5' := hk5.mono (T := own2m a v) (fun _ e => Or.inl e); have hb5 := HBL.out.own hk5' ha HV.out; obtain ⟨⟨M0, M1, M2, M3, M4⟩, ⟨C0, C1, C2, C3⟩, ⟨R0, R1, R2, R3⟩, ⟨F0, F1, F2, F3⟩, ⟨G0, G1, G2, G3⟩, Z1, Z2⟩ := hb5.facts; clear hb5))
        refine bodyPost_ret (v := .agg #[.int .i64 2, .int .i64 1, .int .i64 wd, .int .i64 y]) (by simp [results, Try.results51, go_sem, *]) rfl ⟨rfl, ?_, ?_⟩
        · repeat (first | (with_reducible exact hm5) | refine MemT.set (B := B) ?_ ha HV.out _ (by show B ≤ _; dsimp only; omega) _)
        · repeat (first | (with_reducible exact (HK1.out.no.trans hk5')) | refine kset HB.out ?_ _ (by show B ≤ _; dsimp only; omega) _)
      · rw [if_pos (.inr rfl), if_neg (by decide)]
        obtain ⟨wd, hwd⟩ : ∃ wd, M.word 0 = wd := ⟨_, rfl⟩
        obtain ⟨nw, hnw⟩ : ∃ nw, wrap64 (x + 1) = nw := ⟨_, rfl⟩
        have hnw' : IntKind.i64.wrap (x + 1) = nw := (IntWalk.i64_left _).trans hnw
        unfold swapB byB
        dsimp only
        rw [if_neg (show ¬ (2 : Int) = 3 by decide), hwd, hnw]
        have HWD := Lib.hid hwd
        clear hwd hnw
        by_cases hq : wd = x
        · rw [if_pos hq]
          subst hq
          unfold bumpV
          dsimp only
          go_enter Try.func51, Try.ntmps51
          go_wp2_with fail
          refine (rclock_lit ms ml mt mc md (0) HCL.out _).mono ?_
          rintro e w1 ⟨rfl, hk1⟩
          have hb1 := HBX.out.no hk1
          have hA3 := HA2.out.keep hk1 (fun f => f) (fun _ _ f => f)
          have HK1 := Lib.hid (HK.out.trans hk1)
          obtain ⟨⟨m0, m1, m2, m3, m4⟩, ⟨c0, c1, c2, c3⟩, ⟨r0, r1, r2, r3⟩, ⟨f0, f1, f2, f3⟩, ⟨g0, g1, g2, g3⟩, z1, z2⟩ := hb1.facts
          have HBL := Lib.hid hb1
          clear hb1
          rw [HB.out]
          go_wp2_with (first
            | (go_at_call 85; refine (rswap_yes a v M 0 wd nw _ hA3 hn0 (by rw [HWD.out]; simp)).mono ?_; rw [HWD.out]; rintro e w5 ⟨rfl, hm5, hk5⟩; have hb5 := HBL.out.own hk5 ha HV.out; obtain ⟨⟨M0, M1, M2, M3, M4⟩, ⟨C0, C1, C2, C3⟩, ⟨R0, R1, R2, R3⟩, ⟨F0, F1, F2, F3⟩, ⟨G0, G1, G2, G3⟩, Z1, Z2⟩ := hb5.facts; clear hb5))
          refine bodyPost_ret (v := .agg #[.int .i64 2, .int .i64 9, .int .i64 wd, .int .i64 nw]) (by simp [results, Try.results51, go_sem, *]) rfl ⟨rfl, ?_, ?_⟩
          · repeat (first | (with_reducible exact hm5) | refine MemT.set (B := B) ?_ ha HV.out _ (by show B ≤ _; dsimp only; omega) _)
          · repeat (first | (with_reducible exact (HK1.out.no.trans hk5)) | refine kset HB.out ?_ _ (by show B ≤ _; dsimp only; omega) _)
        · rw [if_neg hq, if_pos (show (2 : Int) = 2 from rfl)]
          unfold bumpV
          dsimp only
          go_enter Try.func51, Try.ntmps51
          go_wp2_with fail
          refine (rclock_lit ms ml mt mc md (0) HCL.out _).mono ?_
          rintro e w1 ⟨rfl, hk1⟩
          have hb1 := HBX.out.no hk1
          have hA3 := HA2.out.keep hk1 (fun f => f) (fun _ _ f => f)
          have HK1 := Lib.hid (HK.out.trans hk1)
          obtain ⟨⟨m0, m1, m2, m3, m4⟩, ⟨c0, c1, c2, c3⟩, ⟨r0, r1, r2, r3⟩, ⟨f0, f1, f2, f3⟩, ⟨g0, g1, g2, g3⟩, z1, z2⟩ := hb1.facts
          have HBL := Lib.hid hb1
          clear hb1
          rw [HB.out]
          go_wp2_with (first
            | (go_at_call 85; refine (rswap_no a v M 0 x nw _ hA3 hn0 (by rw [HWD.out]; simpa using hq)).mono ?_; rw [HWD.out]; rintro e w5 ⟨rfl, hm5, hk5⟩; have hb5 := HBL.out.own hk5 ha HV.out; obtain ⟨⟨M0, M1, M2, M3, M4⟩, ⟨C0, C1, C2, C3⟩, ⟨R0, R1, R2, R3⟩, ⟨F0, F1, F2, F3⟩, ⟨G0, G1, G2, G3⟩, Z1, Z2⟩ := hb5.facts; clear hb5))
          refine bodyPost_ret (v := .agg #[.int .i64 2, .int .i64 9, .int .i64 x, .int .i64 wd]) (by simp [results, Try.results51, go_sem, *]) rfl ⟨rfl, ?_, ?_⟩
          · repeat (first | (with_reducible exact hm5) | refine MemT.set (B := B) ?_ ha HV.out _ (by show B ≤ _; dsimp only; omega) _)
          · repeat (first | (with_reducible exact (HK1.out.no.trans hk5)) | refine kset HB.out ?_ _ (by show B ≤ _; dsimp only; omega) _)
      · rw [if_neg (by omega)]
        have s0 : (s == 0) = false := beq_eq_false_iff_ne.2 (by omega)
        have s1 : (s == 1) = false := beq_eq_false_iff_ne.2 (by omega)
        clear hns
        unfold bumpV
        dsimp only
        go_enter Try.func51, Try.ntmps51
        go_wp2_with fail
        refine (rclock_lit ms ml mt mc md (0) HCL.out _).mono ?_
        rintro e w1 ⟨rfl, hk1⟩
        have hb1 := HBX.out.no hk1
        have hA3 := HA2.out.keep hk1 (fun f => f) (fun _ _ f => f)
        have HK1 := Lib.hid (HK.out.trans hk1)
        obtain ⟨⟨m0, m1, m2, m3, m4⟩, ⟨c0, c1, c2, c3⟩, ⟨r0, r1, r2, r3⟩, ⟨f0, f1, f2, f3⟩, ⟨g0, g1, g2, g3⟩, z1, z2⟩ := hb1.facts
        have HBL := Lib.hid hb1
        clear hb1
        rw [HB.out]
        go_wp2_with fail
        refine bodyPost_ret (v := .agg #[.int .i64 2, .int .i64 s, .int .i64 x, .int .i64 y]) (by simp [results, Try.results51, go_sem, *]) rfl ⟨rfl, ?_, ?_⟩
        · repeat (first | (with_reducible exact hA3) | refine MemT.set (B := B) ?_ ha HV.out _ (by show B ≤ _; dsimp only; omega) _)
        · repeat (first | (with_reducible exact (HK1.out.no)) | refine kset HB.out ?_ _ (by show B ≤ _; dsimp only; omega) _)
    · rw [if_neg (show ¬ (3 : Int) = 1 by decide), if_pos (show (3 : Int) = 3 from rfl)]
      rcases hsp with (rfl | rfl) | hns
      · rw [if_pos (.inl rfl), if_pos rfl]
        have a1 := and_1 (M.word 1)
        obtain ⟨wd, hwd⟩ : ∃ wd, M.word 1 = wd := ⟨_, rfl⟩
        unfold lookB
        dsimp only
        rw [hwd] at a1
        rw [hwd]
        have HWD := Lib.hid hwd
        clear hwd
        by_cases he : wd % 2 = 0
        · rw [if_pos (.inr he)]
          unfold bumpV
          dsimp only
          go_enter Try.func51, Try.ntmps51
          go_wp2_with fail
          refine (rclock_lit ms ml mt mc md (0) HCL.out _).mono ?_
          rintro e w1 ⟨rfl, hk1⟩
          have hb1 := HBX.out.no hk1
          have hA3 := HA2.out.keep hk1 (fun f => f) (fun _ _ f => f)
          have HK1 := Lib.hid (HK.out.trans hk1)
          obtain ⟨⟨m0, m1, m2, m3, m4⟩, ⟨c0, c1, c2, c3⟩, ⟨r0, r1, r2, r3⟩, ⟨f0, f1, f2, f3⟩, ⟨g0, g1, g2, g3⟩, z1, z2⟩ := hb1.facts
          have HBL := Lib.hid hb1
          clear hb1
          rw [HB.out]
          go_wp2_with (first
            | (go_at_call 84; refine (rseq_lit ms ml mt mc md (1) HSQ.out _).mono ?_; rintro e w2 ⟨rfl, hk2⟩; have hb2 := HBL.out.no hk2; have hA4 := hA3.keep hk2 (fun f => f) (fun _ _ f => f); have HK2 := Lib.hid (HK1.out.trans hk2); obtain ⟨⟨p0, p1, p2, p3, p4⟩, ⟨n0, n1, n2, n3⟩, ⟨q0, q1, q2, q3⟩, ⟨u0, u1, u2, u3⟩, ⟨v0, v1, v2, v3⟩, z3, z4⟩ := hb2.facts; have HBL2 := Lib.hid hb2; clear hb2)
            | (go_at_call 73; refine (rload_ok a v M 1 _ hA4 hn1).mono ?_; rw [HWD.out]; rintro e w5 ⟨rfl, hm5, hk5⟩; have hk5' := hk5.mono (T := own2m a v) (fun _ e => Or.inl e); have hb5 := HBL2.out.own hk5' ha HV.out; obtain ⟨⟨M0, M1, M2, M3, M4⟩, ⟨C0, C1, C2, C3⟩, ⟨R0, R1, R2, R3⟩, ⟨F0, F1, F2, F3⟩, ⟨G0, G1, G2, G3⟩, Z1, Z2⟩ := hb5.facts; clear hb5))
          refine bodyPost_ret (v := .agg #[.int .i64 3, .int .i64 1, .int .i64 wd, .int .i64 y]) (by simp [results, Try.results51, go_sem, *]) rfl ⟨rfl, ?_, ?_⟩
          · repeat (first | (with_reducible exact hm5) | refine MemT.set (B := B) ?_ ha HV.out _ (by show B ≤ _; dsimp only; omega) _)
          · repeat (first | (with_reducible exact (HK2.out.no.trans hk5')) | refine kset HB.out ?_ _ (by show B ≤ _; dsimp only; omega) _)
        · rw [if_neg (fun h => h.elim (by decide) he)]
          have he' : (wd % 2 == 0) = false := beq_eq_false_iff_ne.2 he
          unfold bumpV
          dsimp only
          go_enter Try.func51, Try.ntmps51
          go_wp2_with fail
          refine (rclock_lit ms ml mt mc md (0) HCL.out _).mono ?_
          rintro e w1 ⟨rfl, hk1⟩
          have hb1 := HBX.out.no hk1
          have hA3 := HA2.out.keep hk1 (fun f => f) (fun _ _ f => f)
          have HK1 := Lib.hid (HK.out.trans hk1)
          obtain ⟨⟨m0, m1, m2, m3, m4⟩, ⟨c0, c1, c2, c3⟩, ⟨r0, r1, r2, r3⟩, ⟨f0, f1, f2, f3⟩, ⟨g0, g1, g2, g3⟩, z1, z2⟩ := hb1.facts
          have HBL := Lib.hid hb1
          clear hb1
          rw [HB.out]
          go_wp2_with (first
            | (go_at_call 84; refine (rseq_lit ms ml mt mc md (1) HSQ.out _).mono ?_; rintro e w2 ⟨rfl, hk2⟩; have hb2 := HBL.out.no hk2; have hA4 := hA3.keep hk2 (fun f => f) (fun _ _ f => f); have HK2 := Lib.hid (HK1.out.trans hk2); obtain ⟨⟨p0, p1, p2, p3, p4⟩, ⟨n0, n1, n2, n3⟩, ⟨q0, q1, q2, q3⟩, ⟨u0, u1, u2, u3⟩, ⟨v0, v1, v2, v3⟩, z3, z4⟩ := hb2.facts; have HBL2 := Lib.hid hb2; clear hb2)
            | (go_at_call 73; refine (rload_ok a v M 1 _ hA4 hn1).mono ?_; rw [HWD.out]; rintro e w5 ⟨rfl, hm5, hk5⟩; have hk5' := hk5.mono (T := own2m a v) (fun _ e => Or.inl e); have hb5 := HBL2.out.own hk5' ha HV.out; obtain ⟨⟨M0, M1, M2, M3, M4⟩, ⟨C0, C1, C2, C3⟩, ⟨R0, R1, R2, R3⟩, ⟨F0, F1, F2, F3⟩, ⟨G0, G1, G2, G3⟩, Z1, Z2⟩ := hb5.facts; clear hb5))
          refine bodyPost_ret (v := .agg #[.int .i64 3, .int .i64 0, .int .i64 x, .int .i64 y]) (by simp [results, Try.results51, go_sem, *]) rfl ⟨rfl, ?_, ?_⟩
          · repeat (first | (with_reducible exact hm5) | refine MemT.set (B := B) ?_ ha HV.out _ (by show B ≤ _; dsimp only; omega) _)
          · repeat (first | (with_reducible exact (HK2.out.no.trans hk5')) | refine kset HB.out ?_ _ (by show B ≤ _; dsimp only; omega) _)
      · rw [if_pos (.inr rfl), if_neg (by decide)]
        obtain ⟨wd, hwd⟩ : ∃ wd, M.word 1 = wd := ⟨_, rfl⟩
        obtain ⟨nw, hnw⟩ : ∃ nw, wrap64 (x + 2) = nw := ⟨_, rfl⟩
        have hnw' : IntKind.i64.wrap (x + 2) = nw := (IntWalk.i64_left _).trans hnw
        unfold swapB byB
        dsimp only
        rw [if_pos (show (3 : Int) = 3 from rfl), hwd, hnw]
        have HWD := Lib.hid hwd
        clear hwd hnw
        by_cases hq : wd = x
        · rw [if_pos hq]
          subst hq
          unfold bumpV
          dsimp only
          go_enter Try.func51, Try.ntmps51
          go_wp2_with fail
          refine (rclock_lit ms ml mt mc md (0) HCL.out _).mono ?_
          rintro e w1 ⟨rfl, hk1⟩
          have hb1 := HBX.out.no hk1
          have hA3 := HA2.out.keep hk1 (fun f => f) (fun _ _ f => f)
          have HK1 := Lib.hid (HK.out.trans hk1)
          obtain ⟨⟨m0, m1, m2, m3, m4⟩, ⟨c0, c1, c2, c3⟩, ⟨r0, r1, r2, r3⟩, ⟨f0, f1, f2, f3⟩, ⟨g0, g1, g2, g3⟩, z1, z2⟩ := hb1.facts
          have HBL := Lib.hid hb1
          clear hb1
          rw [HB.out]
          go_wp2_with (first
            | (go_at_call 84; refine (rseq_lit ms ml mt mc md (1) HSQ.out _).mono ?_; rintro e w2 ⟨rfl, hk2⟩; have hb2 := HBL.out.no hk2; have hA4 := hA3.keep hk2 (fun f => f) (fun _ _ f => f); have HK2 := Lib.hid (HK1.out.trans hk2); obtain ⟨⟨p0, p1, p2, p3, p4⟩, ⟨n0, n1, n2, n3⟩, ⟨q0, q1, q2, q3⟩, ⟨u0, u1, u2, u3⟩, ⟨v0, v1, v2, v3⟩, z3, z4⟩ := hb2.facts; have HBL2 := Lib.hid hb2; clear hb2)
            | (go_at_call 85; refine (rswap_yes a v M 1 wd nw _ hA4 hn1 (by rw [HWD.out]; simp)).mono ?_; rw [HWD.out]; rintro e w5 ⟨rfl, hm5, hk5⟩; have hb5 := HBL2.out.own hk5 ha HV.out; obtain ⟨⟨M0, M1, M2, M3, M4⟩, ⟨C0, C1, C2, C3⟩, ⟨R0, R1, R2, R3⟩, ⟨F0, F1, F2, F3⟩, ⟨G0, G1, G2, G3⟩, Z1, Z2⟩ := hb5.facts; clear hb5))
          refine bodyPost_ret (v := .agg #[.int .i64 3, .int .i64 9, .int .i64 wd, .int .i64 nw]) (by simp [results, Try.results51, go_sem, *]) rfl ⟨rfl, ?_, ?_⟩
          · repeat (first | (with_reducible exact hm5) | refine MemT.set (B := B) ?_ ha HV.out _ (by show B ≤ _; dsimp only; omega) _)
          · repeat (first | (with_reducible exact (HK2.out.no.trans hk5)) | refine kset HB.out ?_ _ (by show B ≤ _; dsimp only; omega) _)
        · rw [if_neg hq, if_neg (show ¬ (3 : Int) = 2 by decide)]
          unfold bumpV
          dsimp only
          go_enter Try.func51, Try.ntmps51
          go_wp2_with fail
          refine (rclock_lit ms ml mt mc md (0) HCL.out _).mono ?_
          rintro e w1 ⟨rfl, hk1⟩
          have hb1 := HBX.out.no hk1
          have hA3 := HA2.out.keep hk1 (fun f => f) (fun _ _ f => f)
          have HK1 := Lib.hid (HK.out.trans hk1)
          obtain ⟨⟨m0, m1, m2, m3, m4⟩, ⟨c0, c1, c2, c3⟩, ⟨r0, r1, r2, r3⟩, ⟨f0, f1, f2, f3⟩, ⟨g0, g1, g2, g3⟩, z1, z2⟩ := hb1.facts
          have HBL := Lib.hid hb1
          clear hb1
          rw [HB.out]
          go_wp2_with (first
            | (go_at_call 84; refine (rseq_lit ms ml mt mc md (1) HSQ.out _).mono ?_; rintro e w2 ⟨rfl, hk2⟩; have hb2 := HBL.out.no hk2; have hA4 := hA3.keep hk2 (fun f => f) (fun _ _ f => f); have HK2 := Lib.hid (HK1.out.trans hk2); obtain ⟨⟨p0, p1, p2, p3, p4⟩, ⟨n0, n1, n2, n3⟩, ⟨q0, q1, q2, q3⟩, ⟨u0, u1, u2, u3⟩, ⟨v0, v1, v2, v3⟩, z3, z4⟩ := hb2.facts; have HBL2 := Lib.hid hb2; clear hb2)
            | (go_at_call 85; refine (rswap_no a v M 1 x nw _ hA4 hn1 (by rw [HWD.out]; simpa using hq)).mono ?_; rw [HWD.out]; rintro e w5 ⟨rfl, hm5, hk5⟩; have hb5 := HBL2.out.own hk5 ha HV.out; obtain ⟨⟨M0, M1, M2, M3, M4⟩, ⟨C0, C1, C2, C3⟩, ⟨R0, R1, R2, R3⟩, ⟨F0, F1, F2, F3⟩, ⟨G0, G1, G2, G3⟩, Z1, Z2⟩ := hb5.facts; clear hb5))
          refine bodyPost_ret (v := .agg #[.int .i64 3, .int .i64 0, .int .i64 0, .int .i64 y]) (by simp [results, Try.results51, go_sem, *]) rfl ⟨rfl, ?_, ?_⟩
          · repeat (first | (with_reducible exact hm5) | refine MemT.set (B := B) ?_ ha HV.out _ (by show B ≤ _; dsimp only; omega) _)
          · repeat (first | (with_reducible exact (HK2.out.no.trans hk5)) | refine kset HB.out ?_ _ (by show B ≤ _; dsimp only; omega) _)
      · rw [if_neg (by omega)]
        have s0 : (s == 0) = false := beq_eq_false_iff_ne.2 (by omega)
        have s1 : (s == 1) = false := beq_eq_false_iff_ne.2 (by omega)
        clear hns
        unfold bumpV
        dsimp only
        go_enter Try.func51, Try.ntmps51
        go_wp2_with fail
        refine (rclock_lit ms ml mt mc md (0) HCL.out _).mono ?_
        rintro e w1 ⟨rfl, hk1⟩
        have hb1 := HBX.out.no hk1
        have hA3 := HA2.out.keep hk1 (fun f => f) (fun _ _ f => f)
        have HK1 := Lib.hid (HK.out.trans hk1)
        obtain ⟨⟨m0, m1, m2, m3, m4⟩, ⟨c0, c1, c2, c3⟩, ⟨r0, r1, r2, r3⟩, ⟨f0, f1, f2, f3⟩, ⟨g0, g1, g2, g3⟩, z1, z2⟩ := hb1.facts
        have HBL := Lib.hid hb1
        clear hb1
        rw [HB.out]
        go_wp2_with (go_at_call 84; refine (rseq_lit ms ml mt mc md (1) HSQ.out _).mono ?_; rintro e w2 ⟨rfl, hk2⟩; have hb2 := HBL.out.no hk2; have hA4 := hA3.keep hk2 (fun f => f) (fun _ _ f => f); have HK2 := Lib.hid (HK1.out.trans hk2); obtain ⟨⟨p0, p1, p2, p3, p4⟩, ⟨n0, n1, n2, n3⟩, ⟨q0, q1, q2, q3⟩, ⟨u0, u1, u2, u3⟩, ⟨v0, v1, v2, v3⟩, z3, z4⟩ := hb2.facts; have HBL2 := Lib.hid hb2; clear hb2)
        refine bodyPost_ret (v := .agg #[.int .i64 3, .int .i64 s, .int .i64 x, .int .i64 y]) (by simp [results, Try.results51, go_sem, *]) rfl ⟨rfl, ?_, ?_⟩
        · repeat (first | (with_reducible exact hA4) | refine MemT.set (B := B) ?_ ha HV.out _ (by show B ≤ _; dsimp only; omega) _)
        · repeat (first | (with_reducible exact (HK2.out.no)) | refine kset HB.out ?_ _ (by show B ≤ _; dsimp only; omega) _)
    · rw [if_neg k1, if_neg k3, if_neg k2, ite_self]
      have hk' : k < 1 ∨ 3 < k := by omega
      have k3' : (k == 3) = false := beq_eq_false_iff_ne.2 k3
      clear k1 k2 k3 hsp
      rcases hk' with h | h
      · have d1 : decide (k < 1) = true := decide_eq_true h
        clear h
        unfold bumpV
        dsimp only
        go_enter Try.func51, Try.ntmps51
        go_wp2_with fail
        refine (rclock_lit ms ml mt mc md (0) HCL.out _).mono ?_
        rintro e w1 ⟨rfl, hk1⟩
        have hb1 := HBX.out.no hk1
        have hA3 := HA2.out.keep hk1 (fun f => f) (fun _ _ f => f)
        have HK1 := Lib.hid (HK.out.trans hk1)
        obtain ⟨⟨m0, m1, m2, m3, m4⟩, ⟨c0, c1, c2, c3⟩, ⟨r0, r1, r2, r3⟩, ⟨f0, f1, f2, f3⟩, ⟨g0, g1, g2, g3⟩, z1, z2⟩ := hb1.facts
        have HBL := Lib.hid hb1
        clear hb1
        rw [HB.out]
        go_wp2_with fail
        refine bodyPost_ret (v := .agg #[.int .i64 k, .int .i64 s, .int .i64 x, .int .i64 y]) (by simp [results, Try.results51, go_sem, *]) rfl ⟨rfl, ?_, ?_⟩
        · repeat (first | (with_reducible exact hA3) | refine MemT.set (B := B) ?_ ha HV.out _ (by show B ≤ _; dsimp only; omega) _)
        · repeat (first | (with_reducible exact (HK1.out.no)) | refine kset HB.out ?_ _ (by show B ≤ _; dsimp only; omega) _)
      · have d1 : decide (k < 1) = false := decide_eq_false (by omega)
        have d2 : decide (3 < k) = true := decide_eq_true h
        clear h
        unfold bumpV
        dsimp only
        go_enter Try.func51, Try.ntmps51
        go_wp2_with fail
        refine (rclock_lit ms ml mt mc md (0) HCL.out _).mono ?_
        rintro e w1 ⟨rfl, hk1⟩
        have hb1 := HBX.out.no hk1
        have hA3 := HA2.out.keep hk1 (fun f => f) (fun _ _ f => f)
        have HK1 := Lib.hid (HK.out.trans hk1)
        obtain ⟨⟨m0, m1, m2, m3, m4⟩, ⟨c0, c1, c2, c3⟩, ⟨r0, r1, r2, r3⟩, ⟨f0, f1, f2, f3⟩, ⟨g0, g1, g2, g3⟩, z1, z2⟩ := hb1.facts
        have HBL := Lib.hid hb1
        clear hb1
        rw [HB.out]
        go_wp2_with fail
        refine bodyPost_ret (v := .agg #[.int .i64 k, .int .i64 s, .int .i64 x, .int .i64 y]) (by simp [results, Try.results51, go_sem, *]) rfl ⟨rfl, ?_, ?_⟩
        · repeat (first | (with_reducible exact hA3) | refine MemT.set (B := B) ?_ ha HV.out _ (by show B ≤ _; dsimp only; omega) _)
        · repeat (first | (with_reducible exact (HK1.out.no)) | refine kset HB.out ?_ _ (by show B ≤ _; dsimp only; omega) _)
end Go.Proofs.Ytodaiogefgdcpaa
