/- The walk of MemSwaps. -/
import Derived.Test.YtldleacoajlinaaMemLaws
import Derived.Test.YtldleacoajlinaaAppend
namespace Go.Proofs.Ytldleacoajlinaa
open Go.RowKit

theorem swap_len (M : MemS) (i : Nat) (old x : Int) : (M.swap i old x).L.length = M.L.length := by simp only [MemS.swap, MemS.did]; split <;> simp
theorem swap_word_yes (M : MemS) (i : Nat) (old x : Int) (h : i < M.L.length) (ho : (M.word i == old) = true) : (M.swap i old x).word i = x := by
  have e : (M.swap i old x).L = M.L.set i x := by unfold MemS.swap; rw [ho]; rfl
  rw [MemS.word, e]; simp [h]
theorem swap_word_no (M : MemS) (i : Nat) (old x : Int) (ho : (M.word i == old) = false) : (M.swap i old x).word i = M.word i := by
  have e : (M.swap i old x).L = M.L := by unfold MemS.swap; rw [ho]; rfl
  rw [MemS.word, e]; rfl
theorem swap_st (M : MemS) (i : Nat) (old x : Int) : (M.swap i old x).st = wrap64 (M.st + 1) := rfl
theorem st_up {k : Nat} {s : Int} (h : s = (k : Int)) (hk : k ≤ 1000) : wrap64 (s + 1) = ((k + 1 : Nat) : Int) := by rw [h, wrap64_id (by omega) (by omega)]; omega

set_option maxHeartbeats 1000000 in
set_option maxRecDepth 100000 in
theorem memSwaps_main (w : World) (a0 : Int) (v1 : Value) (zs : List Int) (hin : InI w v1 zs) (h40 : zs.length ≤ 40) :
    Calls Try.prog 12 #[.int .i64 a0, v1] w fun e w' => e = .returned (.bool true) ∧ Keeps NoS w w' := by
  obtain ⟨p, cap, rfl, _, hcell, hnil⟩ := hin
  have Hc := Lib.hid hcell
  have Hnil := Lib.hid hnil
  clear hcell hnil
  go_enter Try.func12, Try.ntmps12
  go_wp2_with fail
  refine (new_some w.heap.size 0 1 [a0] (w.alloc (.cells #[.int .i64 a0] 2)) (by simp) (by simp) ?_).mono ?_
  · intro k hk
    rw [blk_cell (heap_alloc_new _ _)]
    match k, hk with
    | 0, _ => rfl
  rintro e w1 ⟨a, v, rfl, hm, ha, hv, hk⟩
  have h1 := fresh_in ((Keeps.refl NoS w).alloc _) hm ha hv hk
  clear hm ha hv hk
  have H1 := Lib.hid h1
  clear h1
  go_wp2_with fail
  go_loopw [6, 7] (fun n i wr => ∃ (k : Nat) (M : MemS), k ≤ zs.length ∧ i = .int .i64 k ∧ n = .int .i64 ((min k 1 : Nat) : Int) ∧ M.L.length = 1 ∧ M.st = (k : Int) ∧ (k = 0 → M.word 0 = a0) ∧ (0 < k → M.word 0 = zs.getD 0 0 ∧ zs.getD 0 0 ≠ a0) ∧ MemIn w wr a v M) (fun _ i _ => zs.length - (intOf i).toNat)
  case atStart => exact ⟨0, _, by omega, rfl, rfl, rfl, rfl, fun _ => rfl, fun h => absurd h (by decide), H1.out⟩
  case round =>
    obtain ⟨k, M, hk, rfl, rfl, hM, hst, hz, hp, hI⟩ := hrel
    clear H1
    have HM := Lib.hid hM; have Hst := Lib.hid hst; have Hz := Lib.hid hz; have Hp := Lib.hid hp
    clear hM hst hz hp
    by_cases hlt : k < zs.length
    · obtain ⟨b, off, rfl, hc⟩ := Hc.out (fun e => by rw [e] at hlt; exact absurd hlt (by simp))
      have e0 := hc k hlt
      have e1 : w.cell? ⟨b, off, none⟩ = some (.int .i64 (zs.getD 0 0)) := by simpa using hc 0 (by omega)
      have d0 := hI.kp.cell e0 (fun f => f)
      have d1 := hI.kp.cell e1 (fun f => f)
      clear hc
      have hsteps : wrap64 (M.st + 1) = ((k + 1 : Nat) : Int) := st_up Hst.out (by omega)
      have HS := Lib.hid hsteps
      clear hsteps
      by_cases heq : zs.getD k 0 = a0
      · have hq : (zs.getD k 0 == a0) = true := by simpa using heq
        clear heq
        generalize zs.getD k 0 = x at *
        go_wp2_with (go_at_call 37; refine (told2_any _).mono ?_; rintro e w3 ⟨rfl, hk3⟩)
        go_ret
        exact ⟨rfl, hI.kp.trans hk3⟩
      · have hq : (zs.getD k 0 == a0) = false := by simpa using heq
        by_cases hk0 : k = 0
        · subst hk0
          have hw : M.word 0 = a0 := Hz.out rfl
          clear e0 d0
          have hy : (M.word 0 == a0) = true := by simpa using hw
          have Hw := Lib.hid hw; have Hy := Lib.hid hy; have Heq := Lib.hid heq
          clear hw hy heq
          obtain ⟨x, hx⟩ : ∃ x, zs.getD 0 0 = x := ⟨_, rfl⟩
          rw [hx] at hq d1 e1 Heq
          have Hx := Lib.hid hx; clear hx
          go_wp2_with fail
          refine (swap_yes a v M 0 a0 x wr hI.m (by rw [HM.out]; decide) Hy.out).mono ?_
          rw [Hw.out]
          rintro e w3 ⟨rfl, hm3, hk3⟩
          have hI3 := hI.turn hm3 hk3
          go_wp2_with fail
          go_roundw
          case rel => exact ⟨1, M.swap 0 a0 x, by omega, by go_num, by go_num, by rw [swap_len]; exact HM.out, by rw [swap_st]; exact HS.out, fun h => absurd h (by decide), fun _ => ⟨by rw [swap_word_yes _ _ _ _ (by rw [HM.out]; decide) Hy.out]; exact Hx.out.symm, by rw [Hx.out]; exact Heq.out⟩, hI3⟩
          case measure => simp [intOf]; omega
        · obtain ⟨hw, hne⟩ := Hp.out (by omega)
          have hy : (M.word 0 == a0) = false := by rw [hw]; simpa using hne
          have hk1 : ((k : Int) == 0) = false := by simpa using hk0
          have hmin : ((min k 1 : Nat) : Int) = 1 := by omega
          have Hw := Lib.hid hw; have Hy := Lib.hid hy; have Hne := Lib.hid hne; have Hmin := Lib.hid hmin
          rw [hmin]
          clear hw hy heq hne hmin
          obtain ⟨x, hx⟩ : ∃ x, zs.getD k 0 = x := ⟨_, rfl⟩
          rw [hx] at hq d0 e0
          clear hx
          obtain ⟨y, hy0⟩ : ∃ y, zs.getD 0 0 = y := ⟨_, rfl⟩
          rw [hy0] at d1 e1 Hw Hne
          have HY := Lib.hid hy0; clear hy0
          go_wp2_with fail
          refine (swap_no a v M 0 a0 x wr hI.m (by rw [HM.out]; decide) Hy.out).mono ?_
          rw [Hw.out]
          rintro e w3 ⟨rfl, hm3, hk3⟩
          have hI3 := hI.turn hm3 hk3
          have d2 := hI3.kp.cell e1 (fun f => f)
          go_wp2_with fail
          go_roundw
          case rel => exact ⟨k + 1, M.swap 0 a0 x, by omega, by go_num, by go_num, by rw [swap_len]; exact HM.out, by rw [swap_st]; exact HS.out, fun h => absurd h (by omega), fun _ => ⟨by rw [swap_word_no _ _ _ _ Hy.out, Hw.out]; exact HY.out.symm, by rw [HY.out]; exact Hne.out⟩, hI3⟩
          case measure => simp [intOf]; omega
    · obtain rfl : k = zs.length := by omega
      obtain ⟨i0, hi, hz0, hz1, hz2⟩ := info_parts infoI64
      have hx0 : (intsV zs ++ [.int .i64 a0])[0]? = some (.int .i64 (M.word 0)) := by
        by_cases hz : zs.length = 0
        · rw [List.length_eq_zero_iff.1 hz]; simp [intsV, Hz.out hz]
        · rw [List.getElem?_append_left (by rw [intsV_len]; omega), intsV_get _ _ (by omega), (Hp.out (by omega)).1]
      have hmin : ((min zs.length 1 : Nat) : Int) = min (zs.length : Int) 1 := by omega
      rw [hmin]
      have HX := Lib.hid hx0
      have b3 : 0 + zs.length ≤ maxLen := by unfold maxLen; omega
      have b4 : zs.length + 1 ≤ maxLen := by unfold maxLen; omega
      have b5 : 0 + 1 ≤ maxLen := by unfold maxLen; omega
      have u1 : ∀ u ∈ [Value.int .i64 a0], u.oneCell' = true := by simp [Value.oneCell']
      have hlen : (intsV zs).length = zs.length * 1 := by rw [intsV_len]; omega
      have HL := Lib.hid hlen; have U1 := Lib.hid u1
      have h1c : ∀ u ∈ intsV zs, u.oneCell' = true := by
        intro u hu; simp [intsV] at hu; obtain ⟨x, _, rfl⟩ := hu; rfl
      have H1C := Lib.hid h1c
      clear hmin hlt hx0 u1 hlen h1c
      by_cases hpn : p = none
      · subst hpn
        have hzs : zs = [] := Classical.byContradiction fun hne => by obtain ⟨b, off, h, _⟩ := Hc.out hne; cases h
        subst hzs
        obtain rfl := Hnil.out rfl
        go_wp2_with (first
          | (go_at_call 37; refine (told2_any _).mono ?_; rintro e w3 ⟨rfl, hk3⟩; have hI3 := hI.keep hk3)
          | (go_at_call 53; refine (steps_any a v M _ hI3.m).mono ?_; rw [Hst.out]; rintro e w4 ⟨rfl, rfl⟩)
          | (go_at_call 40; refine (peek_ok a v M 0 _ hI3.m (by rw [HM.out]; decide)).mono ?_; rintro e w5 ⟨rfl, hk5⟩; have hI5 := hI3.keep hk5)
          | (at_builtin; refine wpList_append_noneg _ rfl (.tmp 92) (.tmp 93) 44 rfl 2 i0 1 Try.underlying44 hi _ 0 [] rfl (owns_empty _ _ _) hz1 rfl ?_)
          | (at_builtin; (refine wpList_append_fpg _ rfl (.tmp 94) (.tmp 96) 44 rfl 2 i0 (.int .i64 0) 1 8 Try.underlying44 hi hz0 hz1 hz2 rfl (by decide) _ 0 [] rfl ((owns_empty _ _ _).alloc _) _ 1 1 [.int .i64 a0] rfl rfl (by first | exact cells_new _ _ _ | exact cells_new2 _ _ _ _) U1.out b5 (by decide) ?_); intro v2 w7 hown2 hgr2 hob2; obtain ⟨g2, c2, rfl, hc2, hpos2⟩ := owns_head hown2 HX.out))
        all_goals go_ret
        all_goals exact ⟨by simp, ((hI5.kp.alloc _).alloc _).grown hgr2 (fun k hk hlt => by have hk' : some w5.heap.size = some k := hk; have := hI5.kp.size; simp at hk'; omega)⟩
      · obtain ⟨ad, rfl⟩ := Option.ne_none_iff_exists'.1 hpn
        have hnews : ∀ j u, (intsV zs)[j]? = some u → w.cell? (ad.add j) = some u := by
          intro j u hu
          have hj : j < zs.length := by rw [← intsV_len]; exact (List.getElem?_eq_some_iff.1 hu).1
          obtain ⟨b, off, hb, hc⟩ := Hc.out (fun e => by rw [e] at hj; exact absurd hj (by simp))
          simp only [Option.some.injEq] at hb
          subst hb
          rw [intsV_get zs j hj] at hu
          rw [Go.WideShapes.add_plain, hc j hj]; exact hu
        have HN := Lib.hid hnews
        clear hnews hpn
        go_wp2_with (first
          | (go_at_call 37; refine (told2_any _).mono ?_; rintro e w3 ⟨rfl, hk3⟩; have hI3 := hI.keep hk3)
          | (go_at_call 53; refine (steps_any a v M _ hI3.m).mono ?_; rw [Hst.out]; rintro e w4 ⟨rfl, rfl⟩)
          | (go_at_call 40; refine (peek_ok a v M 0 _ hI3.m (by rw [HM.out]; decide)).mono ?_; rintro e w5 ⟨rfl, hk5⟩; have hI5 := hI3.keep hk5)
          | (at_builtin; refine wpList_append_fpg _ rfl (.tmp 92) (.tmp 93) 44 rfl 2 i0 (.int .i64 0) 1 8 Try.underlying44 hi hz0 hz1 hz2 rfl (by decide) _ 0 [] rfl (owns_empty _ _ _) ad zs.length cap (intsV zs) rfl HL.out (fun j u hu => (hI5.kp.alloc _).cell (HN.out j u hu) (fun f => f)) H1C.out b3 (by omega) ?_; intro v1 w6 hown1 hgr1 hob1; rw [Nat.zero_add, List.nil_append] at hown1; obtain ⟨p1, c1, rfl⟩ := owns_slice hown1; have OW := Lib.hid hown1; have OB := Lib.hid hob1; clear hown1 hob1)
          | (at_builtin; refine wpList_append_fpg _ rfl (.tmp 94) (.tmp 96) 44 rfl 2 i0 (.int .i64 0) 1 8 Try.underlying44 hi hz0 hz1 hz2 rfl (by decide) _ zs.length (intsV zs) rfl (OW.out.alloc _) _ 1 1 [.int .i64 a0] rfl rfl (by first | exact cells_new _ _ _ | exact cells_new2 _ _ _ _) U1.out b4 (by omega) ?_; intro v2 w7 hown2 hgr2 hob2; obtain ⟨g2, c2, rfl, hc2, hpos2⟩ := owns_head hown2 HX.out))
        all_goals go_ret
        all_goals refine ⟨by simp, ?_⟩
        all_goals have k6 := (hI5.kp.alloc (.cells #[] 2)).grown hgr1 (fun k hk hlt => by have hk' : some w5.heap.size = some k := hk; have := hI5.kp.size; simp at hk'; omega)
        all_goals exact (k6.alloc _).grown hgr2 (fun k hk hlt => by
          have := hI5.kp.size
          rcases OB.out k hk with h | h
          · have hk' : some w5.heap.size = some k := h
            simp at hk'; omega
          · simp at h; omega)

theorem memSwaps_walk (w : World) (a0 : Int) (w0 : (Lit.int .i64 a0).wf = true) (v1 : Value) (zs : List Int) (hin : InI w v1 zs) (f1 : ∀ k, k < zs.length → (Lit.int .i64 (zs.getD k 0)).wf = true) :
    Calls Try.prog 12 #[.int .i64 a0, v1] w fun e w' => e = .returned (.bool true) ∧ Keeps NoS w w' := by
  by_cases h40 : zs.length ≤ 40
  · exact memSwaps_main w a0 v1 zs hin h40
  · obtain ⟨p, cap, rfl, hmax, _, _⟩ := hin
    go_enter Try.func12, Try.ntmps12
    go_wp2_with (go_at_call 37; refine (told2_any _).mono ?_; rintro e w3 ⟨rfl, hk3⟩)
    go_ret
    exact ⟨rfl, hk3⟩
end Go.Proofs.Ytldleacoajlinaa
