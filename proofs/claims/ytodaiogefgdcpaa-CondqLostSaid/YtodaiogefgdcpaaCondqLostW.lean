/- A wake at an empty queue turns no word (the walk). -/
import Derived.Test.YtodaiogefgdcpaaCondqLaw
import Derived.Test.YtodaiogefgdcpaaMemSame
namespace Go.Proofs.Ytodaiogefgdcpaa
open Go.RowKit
theorem mapC20 {w : World} {B : Nat} (h : MapAt w B 1 1 4 2 1) : (w.cell? ⟨B, 0, none⟩ = some (.int .i64 1) ∧ w.cell? ⟨B, 1, none⟩ = some (.int .i64 1) ∧ w.cell? ⟨B, 2, none⟩ = some (.int .i64 4) ∧ w.cell? ⟨B, 3, none⟩ = some (.int .i64 2) ∧ w.cell? ⟨B, 4, none⟩ = some (.int .i64 1)) := h
theorem mod_bdL (z : Int) (n : Int) (h : 0 < n) : ∃ q : Nat, (IntKind.u64.wrap z).tmod n = (q : Int) ∧ (q : Int) < n := by
  obtain ⟨h1, h2⟩ := u64_tmod_bd z n (by omega)
  exact ⟨((IntKind.u64.wrap z).tmod n).toNat, by omega, by omega⟩
theorem do20 (kd c t : Int) (a : Nat) (v : Value) (M : MemS) (n : Nat) (hn : n < 60) {M' : MemS} (h0 : (iterD m20 (M, startR kd c t) n).1 = M') (h1 : (nextA m20 (iterD m20 (M, startR kd c t) n).2).k = 0) (h2 : ∀ j, j < n → ¬ (nextA m20 (iterD m20 (M, startR kd c t) j).2).k = 0) (w : World) (hA : MemAt w a v M) :
    Calls Try.prog 57 #[.agg #[.int .i64 1, .int .i64 1, .int .i64 4, .int .i64 2, .int .i64 1], .pointer (some ⟨a, 0, none⟩), .int .i64 kd, .int .i64 c, .int .i64 t] w fun e w' => e = .returned (.int .i64 n) ∧ MemAt w' a v M' ∧ Keeps (own2m a v) w w' := by
  subst h0
  exact do_any 1 1 4 2 1 kd c t a v M w hA (by decide) n hn h1 h2
set_option maxHeartbeats 8000000 in
set_option maxRecDepth 100000 in
theorem condqLost_walk (w : World) (z : Int) (_e0 : (Lit.int .i64 z).wf = true) (al : Bool) : Calls Try.prog 13 #[.int .i64 z, .bool al] w fun e w' => e = .returned (.bool true) ∧ Keeps NoS w w' := by
  clear _e0
  obtain ⟨m, hm, hm20⟩ := mod_bdL z 20 (by omega)
  obtain ⟨i0, hi, hz0, hz1, hz2⟩ := info_parts infoI64
  have m1 : i0.bytes * 43 ≤ 281474976710656 := by rw [hz2]; omega
  have m2 : 43 ≤ maxLen := by unfold maxLen; omega
  go_enter Try.func13, Try.ntmps13
  go_wp2_with (go_at_call 39; refine (map20_any _).mono ?_; rintro e w1 ⟨rfl, hk1⟩)
  have hB := mapAt_new w1 1 1 4 2 1 25
  have hk1' := hk1.alloc (.cells #[.int .i64 1, .int .i64 1, .int .i64 4, .int .i64 2, .int .i64 1] 25)
  have hBl : w1.heap.size < (w1.alloc (.cells #[.int .i64 1, .int .i64 1, .int .i64 4, .int .i64 2, .int .i64 1] 25)).heap.size := by simp
  obtain ⟨B, hBe⟩ : ∃ B, w1.heap.size = B := ⟨_, rfl⟩
  rw [hBe] at hB hBl
  rw [hBe]
  generalize w1.alloc (.cells #[.int .i64 1, .int .i64 1, .int .i64 4, .int .i64 2, .int .i64 1] 25) = W at *
  refine (size_lit 1 1 4 2 1 43 size20 _).mono ?_
  rintro e w2 ⟨rfl, hk2⟩
  have hB2 := hB.keep hk2 (fun f => f)
  have hK2 := hk1'.trans hk2
  have hBl2 := Nat.lt_of_lt_of_le hBl hk2.size
  clear hk1' hk2 hB hk1 hBe hBl
  go_wp2_with (first
    | (refine wpList_make_full _ rfl _ _ 49 rfl 0 2 i0 (.int .i64 0) 1 Try.underlying49 hi hz0 hz1 .i64 .i64 _ _ 43 rfl rfl rfl rfl m1 m2 (Nat.zero_le _) ?_; intro w3 hown hgr; have hz := made_zeros w3 _ 43 hown; have hk3 : Keeps NoS w2 w3 := (Keeps.refl NoS w2).grown hgr (fun k hk => by cases hk); have hB3 := hB2.keep hk3 (fun f => f); have hK3 := hK2.trans hk3; clear hgr hown)
    | (go_at_call 28; refine (new_someN w2.heap.size 0 43 43 (List.replicate 43 0) w3 (by simp) (by decide) (by decide) hz).mono ?_; rintro e w4 ⟨a, v, rfl, hm4, ha, hv, hk⟩; have h4 := fresh_in hK3 hm4 ha hv hk; have hB4 := hB3.keep hk (fun f => f); have hnB : ¬ own2m a v B := not_own (fun e => by have := hk3.size; omega) (fun e => by have h' := hv B e; have := hk3.size; omega); clear hm4 ha hv hk hz hK3 hB3 hk3))
  have H4 := Lib.hid h4; have HB4 := Lib.hid hB4
  clear h4 hB4 hi hz0 hz1 hz2 m1 m2 hB2 hK2 hBl2
  go_loopw [7] (fun i wr => ∃ (j : Nat) (M : MemS), j ≤ m ∧ i = .int .i64 j ∧ MemIn w wr a v M ∧ MapAt wr B 1 1 4 2 1 ∧ M.L.length = 43 ∧ M.word 29 = j ∧ M.word 30 = j) (fun i _ => m - (intOf i).toNat)
  case atStart => exact ⟨0, _, by omega, rfl, H4.out, HB4.out, M0_len 43, rfl, rfl⟩
  case round =>
    obtain ⟨j, M, hj, rfl, hM, hb, hl, h29, h30⟩ := hrel
    have HM := Lib.hid hM; have HB := Lib.hid hb
    obtain ⟨b0, b1, b2, b3, b4⟩ := mapC20 hb
    clear hM hb H4 HB4
    by_cases hlt : j < m
    · obtain ⟨t, ht, ht4⟩ : ∃ t : Nat, j % 4 = t ∧ t < 4 := ⟨_, rfl, by omega⟩
      have htm : (j : Int).tmod 4 = (t : Int) := by rw [Int.tmod_eq_emod_of_nonneg (by omega)]; omega
      have htm2 : (j : Int) % 4 = (t : Int) := by omega
      obtain ⟨M1, s1, s2, s3, s4, s5⟩ := sleep4 hl (c := 0) (t := t) (by omega) ht4 h30 (by omega) (by omega)
      have e29 : M1.word 29 = j := by
        rw [s5, if_neg (by omega), if_neg (by decide), if_neg (by unfold sl20; omega)]; exact h29
      have e30 : M1.word 30 = j + 1 := by
        rw [s5, if_neg (by omega), if_pos (by decide)]
      have esl : M1.word (sl20 0 j) = t + 1 := by
        rw [s5, if_neg (by unfold sl20; omega), if_neg (by unfold sl20; omega), if_pos rfl]
      obtain ⟨M2, q1, q2, q3, q4, q5⟩ := wake5 s4 (c := 0) (t := 3) (by omega) (by omega) e29 e30 (by omega) (by omega) (by omega) ht4 esl
      have f29 : M2.word 29 = j + 1 := by rw [q5, if_pos (by decide)]
      have f30 : M2.word 30 = j + 1 := by rw [q5, if_neg (by decide), if_neg (by omega)]; exact e30
      have hdo1 := do20 1 0 t a v M 4 (by decide) s1 s2 s3
      have hdo2 := do20 2 0 3 a v M1 5 (by decide) q1 q2 q3
      have HD1 := Lib.hid hdo1; have HD2 := Lib.hid hdo2; have HF := Lib.hid (show M2.L.length = 43 ∧ M2.word 29 = j + 1 ∧ M2.word 30 = j + 1 from ⟨q4, f29, f30⟩)
      clear s1 s2 s3 s4 s5 e29 e30 esl q1 q2 q3 q4 q5 f29 f30 hdo1 hdo2 hl h29 h30
      go_wp2_with (first
        | (go_at_call 57; (with_reducible refine (HD1.out _ HM.out.m).mono ?_); rintro e w5 ⟨rfl, hm5, hk5⟩; have hM5 := HM.out.turn hm5 hk5; have hb5 := HB.out.keep hk5 hnB; obtain ⟨c0, c1, c2, c3, c4⟩ := mapC20 hb5; have HM5 := Lib.hid hM5; have HB5 := Lib.hid hb5; clear hM5 hb5 hm5 hk5)
        | (go_at_call 57; (with_reducible refine (HD2.out _ HM5.out.m).mono ?_); rintro e w6 ⟨rfl, hm6, hk6⟩; have hM6 := HM5.out.turn hm6 hk6; have hb6 := HB5.out.keep hk6 hnB; have HM6 := Lib.hid hM6; have HB6 := Lib.hid hb6; clear hM6 hb6 hm6 hk6))
      go_roundw
      case rel => exact ⟨j + 1, M2, by omega, by go_num, HM6.out, HB6.out, HF.out.1, by rw [HF.out.2.1]; omega, by rw [HF.out.2.2]; omega⟩
      case measure => simp [intOf]; omega
    · have hkd : ∃ kd : Int, (kd = 2 ∨ kd = 3) ∧ kd = if al then 3 else 2 := by
        cases al
        · exact ⟨2, .inl rfl, rfl⟩
        · exact ⟨3, .inr rfl, rfl⟩
      obtain ⟨kd, hkd1, hkd2⟩ := hkd
      obtain ⟨M1, q1, q2, q3, q4⟩ := wake2 hl (c := 0) (t := 2) (by omega) (by omega) hkd1 h29 h30
      have hdo1 := do20 kd 0 2 a v M 2 (by decide) q1 q2 q3
      have HD1 := Lib.hid hdo1; have HL1 := Lib.hid q4; have HL := Lib.hid hl
      clear q1 q2 q3 q4 hdo1 hl h29 h30 hkd1
      cases al
      all_goals
        simp only [if_true, if_false, Bool.false_eq_true] at hkd2
        subst hkd2
        have hal := blk_lt HM.out.m.hd
        have hvl : ∀ g, v.ownBlock = some g → g < wr.heap.size := fun g e => HM.out.m.own_lt e
        go_wp2_with (first
          | (go_at_call 29; have hM6x := hM6; refine (all_any a v M1 _ hM6.m).mono ?_; rw [HL1.out, HL.out]; rintro e w7 ⟨u2, rfl, ho2, hn2, hk7⟩; have hM7 := hM6.keep hk7; obtain ⟨g2, cap2, rfl, hg2, hcs4, _⟩ := owns_ints ho2 (by decide); have hcs3 := fun j (hj : j < 43) => hk7.cell (hcs2 j hj) (fun f => f); have HC3 := Lib.hid hcs3; have HC4 := Lib.hid hcs4; have HM7 := Lib.hid hM7; clear ho2 hn2 hM7 hcs1 hcs2 hcs3 hcs4)
          | (go_at_call 57; refine (HD1.out _ hM5.m).mono ?_; rintro e w6 ⟨rfl, hm6, hk6⟩; have hM6 := hM5.turn hm6 hk6; have hcs2 := fun j (hj : j < 43) => hk6.cell (hcs1 j hj) hng; clear hm6 hk6)
          | (go_at_call 29; refine (all_any a v M _ HM.out.m).mono ?_; rw [HL.out]; rintro e w5 ⟨u1, rfl, ho1, hn1, hk5⟩; have hM5 := HM.out.keep hk5; have hb5 := HB.out.keep hk5 (fun f => f); obtain ⟨c0, c1, c2, c3, c4⟩ := mapC20 hb5; obtain ⟨g1, cap1, rfl, hg1, hcs1, _⟩ := owns_ints ho1 (by decide); have h' := hn1 g1 rfl; have hng : ¬ own2m a v g1 := not_own (by omega) (fun e => by have := hvl g1 e; omega); clear ho1 hn1))
        go_loopw [11] (fun i wq => ∃ k q : Nat, k ≤ 43 ∧ i = .int .i64 k ∧ wq = w7.drewN q) (fun i _ => 43 - (intOf i).toNat)
        case atStart => exact ⟨0, 0, by omega, rfl, rfl⟩
        case round =>
          obtain ⟨k, q, hk, rfl, rfl⟩ := hrel
          by_cases hlt2 : k < 43
          · have d1 := HC3.out k hlt2
            have d2 := HC4.out k hlt2
            generalize M.L.getD k 0 = y at *
            go_wp2_with fail
            go_quiet (fail)
            go_wp2_with fail
            go_roundw
            case rel => exact ⟨k + 1, _, by omega, by go_num, rfl⟩
            case measure => simp [intOf]; omega
          · have hM8 := HM7.out.keep ((Keeps.refl NoS w7).drewN q)
            go_wp2_with (go_at_call 40; refine (told20_any _).mono ?_; rintro e w9 ⟨rfl, hk9⟩)
            go_ret
            exact ⟨rfl, hM8.kp.trans hk9⟩
end Go.Proofs.Ytodaiogefgdcpaa
