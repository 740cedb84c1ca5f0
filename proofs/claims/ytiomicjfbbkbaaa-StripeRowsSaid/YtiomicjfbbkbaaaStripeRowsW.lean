/- The walk of StripeRows. -/
import Derived.Test.YtiomicjfbbkbaaaHCopy
namespace Go.Proofs.Ytiomicjfbbkbaaa
open Go.RowKit
theorem in_news {w : World} {p : Option Addr} {L : List Int} (hd : L ≠ [] → ∃ b off, p = some ⟨b, off, none⟩ ∧ ∀ k, k < L.length → w.cell? ⟨b, off + k, none⟩ = some (.int .i64 (L.getD k 0))) (W : World) (hk : Keeps NoS w W) : ∀ ad, p = some ad → ∀ j u, (vals L)[j]? = some u → W.cell? (ad.add j) = some u := by
  intro ad hpa j u hj
  have hjl : j < L.length := by have := (List.getElem?_eq_some_iff.1 hj).1; rwa [vals_len] at this
  obtain ⟨b, off, hpb, hc⟩ := hd (fun e => by rw [e] at hjl; exact absurd hjl (by simp))
  rw [hpa] at hpb
  cases hpb
  have e : (⟨b, off, none⟩ : Addr).add j = ⟨b, off + j, none⟩ := by unfold Addr.add; split <;> simp_all
  rw [vals_get L j hjl] at hj
  cases hj
  rw [e]
  exact hk.cell (hc j hjl) (fun f => f)
theorem InI.kept {w w' : World} {v : Value} {L : List Int} (h : InI w v L) (k : Keeps NoS w w') : InI w' v L := by
  obtain ⟨p, cap, rfl, hn, hd, hp⟩ := h
  refine ⟨p, cap, rfl, hn, fun hL => ?_, hp⟩
  obtain ⟨b, off, rfl, hc⟩ := hd hL
  exact ⟨b, off, rfl, fun j hj => k.cell (hc j hj) (fun f => f)⟩
theorem size_near {m : MapS} (h : May m) : 1 ≤ sizeP m ∧ sizeP m ≤ 200 := by
  have hb := starts_bd h
  have : sizeP m = p7 m := by simp [sizeP, of_may h]
  omega
set_option maxHeartbeats 2000000 in
set_option maxRecDepth 100000 in
theorem stripeRows_walk (w : World) (z0 : List Int) (e0 : z0.length = 5) (_f0 : ∀ k, k < z0.length → (Lit.int .i64 (z0.getD k 0)).wf = true) (v1 : Value) (L : List Int) (hin : InI w v1 L) (_f1 : ∀ k, k < L.length → (Lit.int .i64 (L.getD k 0)).wf = true) (raw : Bool) :
    Calls Try.prog 3 #[.agg (nums z0), v1, .bool raw] w fun e w' => e = .returned (.bool true) ∧ Keeps NoS w w' := by
  obtain ⟨k0, k1, k2, k3, k4, rfl⟩ := list5 e0
  obtain ⟨p, cap, rfl, hn, hd, hp⟩ := hin
  have hmay := nearM_may [k0, k1, k2, k3, k4]
  obtain ⟨⟨ms, ml, mt, mc, md⟩, hm⟩ : ∃ m, nearM [k0, k1, k2, k3, k4] = m := ⟨_, rfl⟩
  rw [hm] at hmay
  obtain ⟨n1, n2⟩ := size_near hmay
  obtain ⟨n, hn0⟩ : ∃ n, sizeP ⟨ms, ml, mt, mc, md⟩ = n := ⟨_, rfl⟩
  rw [hn0] at n1 n2
  obtain ⟨i0, hi, hz0, hz1, hz2⟩ := info_parts infoInt
  have HM := Lib.hid hm; have HN := Lib.hid hn0; have HD := Lib.hid hd; have HP := Lib.hid hp; have HW := Lib.hid _f1
  clear hm hmay e0 hn0 hd hp _f0 _f1
  show Calls Try.prog 3 #[.agg #[.int .i64 k0, .int .i64 k1, .int .i64 k2, .int .i64 k3, .int .i64 k4], .slice p L.length cap, .bool raw] w _
  by_cases h40 : (40 : Int) < (L.length : Int)
  · clear hi hz0 hz1 hz2
    go_enter Try.func3, Try.ntmps3
    go_wp2_with (go_at_call 7; refine (told12_any _).mono ?_; rintro e w1 ⟨rfl, rfl⟩)
    go_ret
    exact ⟨rfl, (Keeps.refl NoS w).alloc _⟩
  · have h40' : L.length ≤ 40 := by omega
    go_enter Try.func3, Try.ntmps3
    go_wp2_with fail
    refine (nearm_lit k0 k1 k2 k3 k4 _ HM.out _).mono ?_
    rintro e w1 ⟨rfl, hk1⟩
    unfold mapV
    dsimp only
    go_wp2_with fail
    have hmA := mapAt_new w1 ms ml mt mc md 26
    have hk2 : Keeps NoS w (w1.alloc (.cells #[.int .i64 ms, .int .i64 ml, .int .i64 mt, .int .i64 mc, .int .i64 md] 26)) := (((Keeps.refl NoS w).alloc _).trans hk1).alloc _
    have hBw : w.heap.size ≤ w1.heap.size := by have := hk1.size; simp at this; omega
    have hBW : w1.heap.size < (w1.alloc (.cells #[.int .i64 ms, .int .i64 ml, .int .i64 mt, .int .i64 mc, .int .i64 md] 26)).heap.size := by simp
    obtain ⟨B, hB⟩ : ∃ B, w1.heap.size = B := ⟨_, rfl⟩
    rw [hB] at hmA hBw hBW
    rw [hB]
    clear hB hk1
    generalize w1.alloc (.cells #[.int .i64 ms, .int .i64 ml, .int .i64 mt, .int .i64 mc, .int .i64 md] 26) = W at *
    have HMA := Lib.hid hmA; have HK2 := Lib.hid hk2
    obtain ⟨m0, m1, m2, m3, m4⟩ := hmA
    clear hk2
    refine (size_lit ms ml mt mc md n HN.out _).mono ?_
    rintro e w2 ⟨rfl, hk3⟩
    have HMA2 := Lib.hid (HMA.out.keep hk3); have HK3 := Lib.hid (HK2.out.trans hk3)
    have hBW2 : B < w2.heap.size := by have := hk3.size; omega
    clear m0 m1 m2 m3 m4 hk3 HMA HK2
    have hnews := Lib.hid (in_news HD.out)
    have hl0 : p = none → L.length = 0 := by
      intro e
      by_cases hL : L = []
      · rw [hL]; rfl
      · obtain ⟨b, off, h, _⟩ := HD.out hL
        rw [e] at h; cases h
    have hnil : p = none → L.length = 0 ∧ cap = 0 := fun e => And.intro (hl0 e) (HP.out e)
    have HNIL := Lib.hid hnil
    have d2 : ∀ u ∈ vals L, u.oneCell' = true := by intro u hu; obtain ⟨x, _, rfl⟩ := List.mem_map.1 hu; rfl
    have D2 := Lib.hid d2
    clear hnil d2 hl0
    go_wp2_with (at_builtin; refine wpList_append_list _ rfl _ _ 23 rfl 3 i0 (.int .i64 0) 1 8 Try.underlying23 hi hz0 hz1 hz2 rfl (by decide) _ 0 [] rfl (owns_empty _ _ _) p L.length cap (vals L) rfl (by simp [vals]) HNIL.out (hnews.out _ (HK3.out.alloc _)) D2.out (by unfold maxLen; omega) (by omega) ?_; intro v5 w3 hown hgr hob)
    obtain ⟨p5, c5, rfl, hp5, hl5⟩ : ∃ p5 c5, v5 = .slice p5 L.length c5 ∧ (p5 = none → c5 = 0) ∧ (L ≠ [] → ∃ g, p5 = some ⟨g, 0, none⟩ ∧ B < g ∧ LstAt w3 g L) := by
      rw [Nat.zero_add, List.nil_append] at hown
      rcases hown.2 with ⟨hv, hz⟩ | ⟨g, cp, cur, hv, hx⟩
      · exact ⟨none, 0, by rw [hv, hz], fun _ => rfl, fun h => absurd (List.length_eq_zero_iff.1 hz) h⟩
      · refine ⟨some ⟨g, 0, none⟩, cp, hv, (fun h => nomatch h), fun h => ⟨g, rfl, ?_, ?_⟩⟩
        · have := hob g (by rw [hv]; rfl)
          rcases this with h1 | h1
          · have : g = w2.heap.size := by
              have h2 : some w2.heap.size = some g := h1
              exact (Option.some.inj h2).symm
            omega
          · simp at h1; omega
        · obtain ⟨g', cp', e1, e2⟩ := owns_lst hown h
          rw [hv] at e1
          cases e1
          exact e2
    have hk5 : Keeps NoS w2 w3 := ((Keeps.refl NoS w2).alloc _).grown hgr (fun g hg hlt => by
      have h2 : some w2.heap.size = some g := hg
      have := Option.some.inj h2
      omega)
    have HMA3 := Lib.hid (HMA2.out.keep hk5); have HK5 := Lib.hid (HK3.out.trans hk5)
    have HL5 := Lib.hid hl5
    clear hown hgr hob hl5 hk5 HMA2 HK3 hnews HNIL D2 HD HP
    go_wp2_with fail
    go_loopw [10] (fun i wr => ∃ k : Nat, k ≤ L.length ∧ (raw = true → k = 0) ∧ i = .int .i64 k ∧ (L ≠ [] → ∃ g, p5 = some ⟨g, 0, none⟩ ∧ B < g ∧ LstAt wr g (redL n L k)) ∧ MapAt wr B ms ml mt mc md ∧ Keeps NoS w wr) (fun i _ => L.length - (intOf i).toNat)
    case atStart => exact ⟨0, by omega, fun _ => rfl, rfl, by rw [redL_zero]; exact HL5.out, HMA3.out, HK5.out⟩
    case round =>
      obtain ⟨k, hk, hrk, rfl, hL, hmp, hkp⟩ := hrel
      have HLk := Lib.hid hL; have HMP := Lib.hid hmp; have HKP := Lib.hid hkp
      clear hL hmp hkp HL5 HMA3 HK5
      by_cases hgo : k < L.length ∧ raw = false
      · obtain ⟨hlt, rfl⟩ := hgo
        clear hrk
        obtain ⟨g, rfl, hg, hls⟩ := HLk.out (fun e => by rw [e] at hlt; exact absurd hlt (by simp))
        have c0 := hls.cell k (by rw [redL_len]; exact hlt)
        rw [redL_get n L k k hlt, if_neg (by omega)] at c0
        have fz := hls.free k
        have hset := redL_set n L k hlt
        have hls2 := hls.set k ((IntKind.u64.wrap (L.getD k 0)).tmod n)
        rw [hset] at hls2
        obtain ⟨b1, b2⟩ := u64_tmod_bd (L.getD k 0) n (by omega)
        have HLS := Lib.hid hls2
        have hglt := hls.lt
        clear hset hls2 hls
        generalize hxx : L.getD k 0 = x at c0 b1 b2 HLS
        obtain ⟨y, hy⟩ : ∃ y, (IntKind.u64.wrap x).tmod n = y := ⟨_, rfl⟩
        rw [hy] at b1 b2 HLS
        have hks : Keeps (fun i => i = g) wr (wr.setCell ⟨g, k, none⟩ (.int .i64 y)) := (Keeps.refl (fun i => i = g) wr).setCell (p := ⟨g, k, none⟩) (fun _ => rfl) _
        have hmp2 := HMP.out.keepS hks (show ¬ B = g by omega)
        have hkp2 := HKP.out.setCell (p := ⟨g, k, none⟩) (fun h => by have h' : g < w.heap.size := h; omega) (.int .i64 y)
        have HM2 := Lib.hid hmp2; have HKP2 := Lib.hid hkp2
        clear hks hmp2 hkp2
        go_wp2_with fail
        go_roundw
        case rel => exact ⟨k + 1, by omega, by simp, by go_num, fun _ => ⟨g, rfl, hg, HLS.out⟩, HM2.out, HKP2.out⟩
        case measure => simp [intOf]; omega
      · have hTl := redL_len n L k
        have hTi : InI wr (.slice p5 L.length c5) (redL n L k) := by
          by_cases hL : L = []
          · subst hL
            exact ⟨p5, c5, rfl, by simp [redL], fun h => absurd (by simp [redL]) h, hp5⟩
          · obtain ⟨g, rfl, hg, hls⟩ := HLk.out hL
            rw [← hTl]
            exact hls.inI (by omega)
        obtain ⟨T, hT⟩ : ∃ T, redL n L k = T := ⟨_, rfl⟩
        rw [hT] at hTl hTi
        have HTI := Lib.hid hTi
        have hex : raw = true ∨ L.length ≤ k := by
          cases raw
          · right
            by_cases h : k < L.length
            · exact absurd ⟨h, rfl⟩ hgo
            · omega
          · exact .inl rfl
        clear hgo hT hTi HLk hrk
        obtain ⟨R, hR⟩ : ∃ R, rowsZ ⟨ms, ml, mt, mc, md⟩ T 16 = R := ⟨_, rfl⟩
        have hRl := rowsZ_len ⟨ms, ml, mt, mc, md⟩ T 16
        rw [hR] at hRl
        have HR := Lib.hid hR
        obtain ⟨m0, m1, m2, m3, m4⟩ := HMP.out
        have hsplit : (L.length ≤ k) ∨ (k < L.length ∧ raw = true) := by
          by_cases h : k < L.length
          · rcases hex with h' | h'
            · exact .inr ⟨h, h'⟩
            · omega
          · exact .inl (by omega)
        clear hex hR
        rcases hsplit with hle | ⟨hlt, rfl⟩
        all_goals
          go_wp2_with (first
            | (go_at_call 10; refine (rows_any ⟨ms, ml, mt, mc, md⟩ _ T _ HTI.out).mono ?_; rw [HR.out]; rintro e w4 ⟨u1, rfl, r1, hk4⟩; obtain ⟨q0, q1, q2, q3, q4⟩ := HMP.out.keep hk4; have hT4 := Lib.hid (HTI.out.kept hk4))
            | (go_at_call 12; refine (ref_any ⟨ms, ml, mt, mc, md⟩ _).mono ?_; rintro e w5 ⟨rfl, hk5⟩; unfold mapV; dsimp only)
            | (go_at_call 11; refine (rrows_any ⟨ms, ml, mt, mc, md⟩ _ T _ (hT4.out.kept hk5)).mono ?_; rw [HR.out]; rintro e w6 ⟨u2, rfl, r2, hk6⟩; have r1' := Lib.hid ((r1.keep hk5).keep hk6); have r2' := Lib.hid r2; obtain ⟨pa, ca, rfl⟩ := r1.slice; obtain ⟨pb, cb, rfl⟩ := r2.slice; clear r1 r2))
          have hK6 := Lib.hid (((HKP.out.trans hk4).trans hk5).trans hk6)
          have hM6 := Lib.hid (((HMP.out.keep hk4).keep hk5).keep hk6)
          have hT6 := Lib.hid ((hT4.out.kept hk5).kept hk6)
          have hrise := rowsZ_rise ⟨ms, ml, mt, mc, md⟩ T 16
          rw [HR.out] at hrise
          have HRI := Lib.hid hrise
          clear hk4 hk5 hk6 m0 m1 m2 m3 m4 q0 q1 q2 q3 q4 hT4 hrise HKP HMP HTI
          go_wp2_with fail
          go_loopw [13] (fun i wq => ∃ j z : Nat, j ≤ R.length ∧ i = .int .i64 j ∧ wq = w6.drewN z) (fun i _ => R.length - (intOf i).toNat)
          case atStart => exact ⟨0, 0, by omega, rfl, rfl⟩
          case round =>
            obtain ⟨j, z, hj, rfl, rfl⟩ := hrel
            by_cases hjl : j < R.length
            · obtain ⟨ga, ka, ea, ra⟩ := r1'.out.at (by omega)
              obtain ⟨gb, kb, eb, rb⟩ := r2'.out.at (by omega)
              simp only [Value.slice.injEq, true_and] at ea eb
              obtain ⟨rfl, rfl⟩ := ea
              obtain ⟨rfl, rfl⟩ := eb
              have x0 := ra j hjl
              have y0 := rb j hjl
              by_cases hj0 : j = 0
              · subst hj0
                clear ra rb
                generalize R.getD 0 0 = x at *
                go_wp2_with fail
                go_quiet (fail)
                go_wp2_with fail
                go_roundw
                case rel => exact ⟨1, _, by omega, by go_num, rfl⟩
                case measure => simp [intOf]; omega
              · have x1 := ra (j - 1) (by omega)
                have hlt2 : R.getD (j - 1) 0 < R.getD j 0 := by
                  rw [getD_at R 0 (j - 1) (by omega), getD_at R 0 j hjl]
                  exact List.pairwise_iff_getElem.1 HRI.out _ _ _ _ (by omega)
                have hj1 : 0 < (j : Int) := by omega
                have hjb : decide (0 < (j : Int)) = true := decide_eq_true hj1
                have hjn : 0 < j := by omega
                have hjd : decide (0 < j) = true := decide_eq_true hjn
                have hjc : decide ((j : Int) > 0) = true := decide_eq_true hj1
                have hw : IntKind.i64.wrap ((j : Int) - 1) = ((j - 1 : Nat) : Int) := by
                  refine (IntWalk.i64_left _).trans ((wrap64_id (by omega) (by omega)).trans ?_)
                  omega
                clear ra rb hj0
                generalize R.getD (j - 1) 0 = x' at *
                generalize R.getD j 0 = x at *
                go_wp2_with fail
                go_quiet (fail)
                go_wp2_with fail
                go_roundw
                case rel => exact ⟨j + 1, _, by omega, by go_num, rfl⟩
                case measure => simp [intOf]; omega
            · have hX := (Keeps.refl NoS w6).drewN z
              have r1x := Lib.hid (r1'.out.keep hX)
              have hMX := Lib.hid (hM6.out.keep hX)
              have hTX := Lib.hid (hT6.out.kept hX)
              have hKX := Lib.hid (hK6.out.trans hX)
              clear hX r1' r2' hM6 hT6 hK6 HRI
              generalize w6.drewN z = X at *
              go_wp2_with fail
              go_loopw [14] (fun i wq => ∃ a : Nat, a ≤ L.length ∧ i = .int .i64 a ∧ Keeps NoS X wq) (fun i _ => L.length - (intOf i).toNat)
              case atStart => exact ⟨0, by omega, rfl, Keeps.refl _ _⟩
              case round =>
                obtain ⟨a, ha, rfl, hkq⟩ := hrel
                have HKQ := Lib.hid hkq
                clear hkq
                by_cases hal : a < L.length
                · obtain ⟨p', c', ev, hcl, hc, hcz⟩ := hTX.out.kept HKQ.out
                  simp only [Value.slice.injEq] at ev
                  obtain ⟨b, off, rfl, hcs⟩ := hc (fun e => by rw [e] at hTl; simp at hTl; omega)
                  obtain ⟨rfl, hev, rfl⟩ := ev
                  obtain ⟨x, hx⟩ : ∃ x, T.getD a 0 = x := ⟨_, rfl⟩
                  have c0 := hcs a (by omega)
                  rw [hx] at c0
                  obtain ⟨h, hh⟩ : ∃ h, hashV ⟨ms, ml, mt, mc, md⟩ x = h := ⟨_, rfl⟩
                  have hb := @hash_lt ⟨ms, ml, mt, mc, md⟩ x
                  have hhit : 0 ≤ h → R.any (· == h) = true := by
                    intro h0
                    rw [List.any_eq_true]
                    refine ⟨h, ?_, by simp⟩
                    rw [← HR.out]
                    obtain ⟨r, rfl⟩ : ∃ r : Nat, h = (r : Int) := ⟨h.toNat, by omega⟩
                    exact rowsZ_mem (by omega) (hitB_some (j := a) (by omega) (by rw [hx]; exact hh))
                  have HH := Lib.hid hh; have HHIT := Lib.hid hhit
                  obtain ⟨m0, m1, m2, m3, m4⟩ := hMX.out.keep HKQ.out
                  clear hc hcs hx hh hhit hb hev hcl hcz
                  go_wp2_with fail
                  go_region_held3 (fun w' => (w'.cell? ⟨B, 0, none⟩ = some (.int .i64 ms) ∧ w'.cell? ⟨B, 1, none⟩ = some (.int .i64 ml) ∧ w'.cell? ⟨B, 2, none⟩ = some (.int .i64 mt) ∧ w'.cell? ⟨B, 3, none⟩ = some (.int .i64 mc) ∧ w'.cell? ⟨B, 4, none⟩ = some (.int .i64 md)) ∧ w'.cell? ⟨b, off + a, none⟩ = some (.int .i64 x)) (first | exact ⟨⟨m0, m1, m2, m3, m4⟩, c0⟩ | exact ⟨hm2, d2⟩) (first
                    | (go_at_call 13; refine (hash_lit ms ml mt mc md x h HH.out _).mono ?_; rintro e w7 ⟨rfl, hk7⟩; have hm2 := (hMX.out.keep HKQ.out).drew.keep hk7; have d2 := hk7.cell (p := ⟨b, off + a, none⟩) (v := .int .i64 x) c0 (fun f => f)))
                  have hY := Lib.hid ((HKQ.out.drew).trans hk7)
                  have r1y := Lib.hid (r1x.out.keep hY.out)
                  clear hm2 d2 hk7 m0 m1 m2 m3 m4 c0
                  go_wp2_with fail
                  go_loopw [16, 17] (fun iv jv wq => ∃ (j : Nat) (q : Bool), j ≤ R.length ∧ iv = .bool q ∧ q = (R.take j).any (· == h) ∧ jv = .int .i64 j ∧ wq = w7) (fun _ jv _ => R.length - (intOf jv).toNat)
                  case atStart => exact ⟨0, false, by omega, rfl, rfl, rfl, rfl⟩
                  case round =>
                    obtain ⟨j, q, hj, rfl, hq, rfl, rfl⟩ := hrel
                    by_cases hjl : j < R.length
                    · obtain ⟨ga, ka, ea, ra⟩ := r1y.out.at (by omega)
                      simp only [Value.slice.injEq, true_and] at ea
                      obtain ⟨rfl, rfl⟩ := ea
                      have x0 := ra j hjl
                      have hq2 : (R.take (j + 1)).any (· == h) = ((R.take j).any (· == h) || R.getD j 0 == h) := by
                        rw [getD_at R 0 j hjl, List.take_succ_eq_append_getElem hjl, List.any_append]
                        simp only [List.any_cons, List.any_nil, Bool.or_false]
                      rw [← hq] at hq2
                      have HQ2 := Lib.hid hq2
                      clear ra hq2 hq
                      generalize R.getD j 0 = y at *
                      cases q
                      all_goals
                        go_wp2_with fail
                        go_roundw
                        case rel => exact ⟨j + 1, _, by omega, rfl, (by rw [HQ2.out]; simp), by go_num, (by first | rfl | trivial)⟩
                        case measure => simp [intOf]; omega
                    · have hje : j = R.length := by omega
                      subst hje
                      rw [List.take_length] at hq
                      by_cases h0 : 0 ≤ h
                      · rw [HHIT.out h0] at hq
                        subst hq
                        go_wp2_with fail
                        go_roundw
                        case rel => exact ⟨a + 1, by omega, by go_num, hY.out⟩
                        case measure => simp [intOf]; omega
                      · clear hq
                        go_wp2_with fail
                        go_roundw
                        case rel => exact ⟨a + 1, by omega, by go_num, hY.out⟩
                        case measure => simp [intOf]; omega
                · go_wp2_with (first
                    | (go_at_call 7; refine (told12_any _).mono ?_; rintro e w8 ⟨rfl, rfl⟩)
                    | (go_at_call 10; refine (rows_any ⟨0, 0, 0, 0, 0⟩ _ T _ (hTX.out.kept HKQ.out)).mono ?_; rw [rowsZ_nil]; rintro e w9 ⟨u9, rfl, r9, hk9⟩; obtain ⟨p9, c9, rfl⟩ := r9.slice))
                  go_ret
                  exact ⟨rfl, (hKX.out.trans HKQ.out).trans hk9⟩
end Go.Proofs.Ytiomicjfbbkbaaa
