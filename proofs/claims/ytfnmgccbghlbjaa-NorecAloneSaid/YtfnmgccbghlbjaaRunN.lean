/- A run goes on: what it asks, then one access. -/
import Derived.Test.YtfnmgccbghlbjaaTxP
import Derived.Deep.LoopGhost
namespace Go.Proofs.Ytfnmgccbghlbjaa
open Go.RowKit
theorem loop_out (n : Nat) (t : TxS) (u : RunM) (h : ¬ (u.busy = false ∧ u.fin = 0)) : askLoop n t u = (t, u) := by
  cases n with
  | zero => rfl
  | succ n => unfold askLoop; rw [if_neg h]
theorem loop_in (n : Nat) (t : TxS) (u : RunM) (h : u.busy = false ∧ u.fin = 0) : askLoop (n + 1) t u = askLoop n (askU t u).1 (askU t u).2 := by
  rw [askLoop, if_pos h]
theorem next_end (M : MemS) (t : TxS) (u : RunM) (h : u.fin ≠ 0) : nextU M t u = (M, t, u) := by unfold nextU; rw [if_pos h]
theorem next_quit (M : MemS) (t t' : TxS) (u u' : RunM) (h : u.fin = 0) (hl : askLoop (u.P.length + 3) t u = (t', u')) (h2 : u'.fin ≠ 0) : nextU M t u = (M, t', u') := by
  unfold nextU; rw [if_neg (by simp [h]), hl, if_pos h2]
theorem next_step (M : MemS) (t t' : TxS) (u u' : RunM) (h : u.fin = 0) (hl : askLoop (u.P.length + 3) t u = (t', u')) (h2 : u'.fin = 0) : nextU M t u = stepU M t' u' := by
  unfold nextU; rw [if_neg (by simp [h]), hl, if_neg (by simp [h2])]

set_option maxHeartbeats 8000000 in
set_option maxRecDepth 100000 in
theorem rnext_any {w : World} {a X ra wa U : Nat} {v rv wv vv pv rdv : Value} {M : MemS} {t : TxS} {u : RunM} (h : NR w a v M X ra wa rv wv vv t U pv rdv u) (hti : TI t) (hri : RI u) (hM : M.L.length = 34) : Calls Try.prog 10 #[.pointer (some ⟨U, 0, none⟩), .pointer (some ⟨a, 0, none⟩), .agg #[.int .i64 3, .int .i64 1, .int .i64 3, .int .i64 0, .int .i64 4]] w fun e w' => e = .returned (.tuple #[]) ∧ NRP w w' a v (nextU M t u).1 X ra wa rv wv vv (nextU M t u).2.1 U pv rdv (nextU M t u).2.2 := by
  have hk0 := (Keeps.refl NoS w).alloc (.cells #[.int .i64 3, .int .i64 1, .int .i64 3, .int .i64 0, .int .i64 4] 25)
  have H0 := Lib.hid (h.no hk0)
  have nB : ¬ ruO a v X ra wa rv wv vv U rdv w.heap.size := fun e => by have := h.lo e; omega
  have mB := mapAt_new w 3 1 3 0 4 25
  have hBl : w.heap.size < (w.alloc (.cells #[.int .i64 3, .int .i64 1, .int .i64 3, .int .i64 0, .int .i64 4] 25)).heap.size := by simp
  have KW := Lib.hid (hk0.no (S := ruO a v X ra wa rv wv vv U rdv))
  have HT0 := Lib.hid hti; have HR0 := Lib.hid hri
  obtain ⟨B, hB⟩ : ∃ B, w.heap.size = B := ⟨_, rfl⟩
  obtain ⟨N, hNx⟩ : ∃ N, nextU M t u = N := ⟨_, rfl⟩
  have HNX := Lib.hid hNx
  rw [hNx]
  clear hNx
  by_cases hf : u.fin = 0
  · have e1 : (u.fin != 0) = false := by simpa using hf
    have HF := Lib.hid hf
    clear hf
    go_enter Try.func10, Try.ntmps10
    go_upto_region 1 with fail
    rw [hB] at nB mB hBl
    (try rw [hB])
    generalize w.alloc (.cells #[.int .i64 3, .int .i64 1, .int .i64 3, .int .i64 0, .int .i64 4] 25) = W at *
    have b4 := H0.out.c 4 (z := .int .i64 u.fin) rfl; have hl := H0.out.lt
    go_wp2_with fail
    clear b4 hl
    go_loopg [11] (u.P.length + 3) (fun g _s wq => ∃ (t1 : TxS) (u1 : RunM) (rv1 wv1 vv1 rdv1 : Value), askLoop (u.P.length + 3) t u = askLoop g t1 u1 ∧ TI t1 ∧ RI u1 ∧ u1.P = u.P ∧ (u1.busy = false ∧ u1.fin = 0 → ((u.P.length : Int) + 2 - u1.i).toNat < g) ∧ NR wq a v M X ra wa rv1 wv1 vv1 t1 U pv rdv1 u1 ∧ Keeps (ruO a v X ra wa rv wv vv U rdv) W wq ∧ (∀ g, ruO a v X ra wa rv1 wv1 vv1 U rdv1 g → ruO a v X ra wa rv wv vv U rdv g ∨ W.heap.size ≤ g))
    case atStart => exact ⟨t, u, rv, wv, vv, rdv, rfl, HT0.out, HR0.out, rfl, fun _ => by have := HR0.out.i0; omega, H0.out, Keeps.refl _ _, fun _ e => .inl e⟩
    case round =>
      obtain ⟨t1, u1, rv1, wv1, vv1, rdv1, hal, ht1, hr1, hp1, hms, hN, hk1, hg1⟩ := hrel
      have mB1 := mB.keep hk1 nB
      have nB1 := out_then hg1 nB hBl
      have HAL := Lib.hid hal; have HT1 := Lib.hid ht1; have HR1 := Lib.hid hr1; have HMS := Lib.hid hms; have HN1 := Lib.hid hN; have HK1 := Lib.hid hk1; have HG1 := Lib.hid hg1; have HP1 := Lib.hid hp1
      clear hal ht1 hr1 hms hN hk1 hg1 hp1
      have hl := HN1.out.lt
      cases hbz : u1.busy with
      | true =>
        have c3 := HN1.out.c 3 (z := .bool true) (by rw [← hbz]; rfl)
        have HLO := Lib.hid (HAL.out.trans (loop_out _ t1 u1 (by rw [hbz]; simp)))
        by_cases hf1 : u1.fin = 0
        · have e4 : (u1.fin != 0) = false := by simpa using hf1
          have HQ0 := Lib.hid (HNX.out.symm.trans (next_step M t t1 u u1 HF.out HLO.out hf1))
          have c4 := HN1.out.c 4 (z := .int .i64 u1.fin) rfl
          have c0 := HN1.out.c 0 (z := .pointer (some ⟨X, 0, none⟩)) rfl
          obtain ⟨⟨M', t', c⟩, hst⟩ : ∃ z, stepX M t1 = z := ⟨_, rfl⟩
          have HST := Lib.hid hst
          clear hst hf1 hbz
          go_upto_region 6 with (go_at_call 24; refine (xStep_any HN1.out.nx hM HT1.out.step).mono ?_; rw [HST.out]; rintro e w2 ⟨rfl, hT⟩)
          clear c0 c3 c4 hl
          obtain ⟨rv2, wv2, vv2, rdv2, hN2, hk2, hg2⟩ := HN1.out.tx hT
          have mB2 := mB1.keep hk2 nB1
          have KK := Lib.hid (HK1.out.trans' hk2 (fun i hi e => (HG1.out i e).elim id (fun z => by omega)))
          have GG := Lib.hid (show ∀ g, ruO a v X ra wa rv2 wv2 vv2 U rdv2 g → ruO a v X ra wa rv wv vv U rdv g ∨ W.heap.size ≤ g from fun g e => (hg2 g e).elim (HG1.out g) (fun z => .inr (by have := HK1.out.size; omega)))
          have HN2 := Lib.hid hN2
          clear hN2 hk2 hg2 mB mB1 hT
          have hl := HN2.out.lt
          (try dsimp only)
          by_cases hc1 : c = 1
          · have HQ := Lib.hid (HQ0.out.trans (show stepU M t1 u1 = (M', t', doneU u1 t'.value) by unfold stepU; rw [HST.out]; dsimp only; rw [if_pos hc1]))
            have e6 : (c == 1) = true := by simpa using hc1
            clear HQ0 hc1
            obtain ⟨m0, m1, m2, m3, m4⟩ := mB2
            go_wp2_with (go_at_call 37; refine (rdone_any HN2.out HR1.out.i0 HR1.out.pl HR1.out.rl 3 1 3 0 4).mono ?_; rintro e w4 ⟨rfl, hdn⟩)
            (first | go_end0 | ((try simp only [Exit.inBlock, Exit.then]); refine bodyPost_ret (results_none rfl _ _ _) rfl ?_))
            rw [HQ.out]
            exact ⟨rfl, NRP.then KW.out (fun g e => .inl e) (NRP.then KK.out GG.out hdn)⟩
          · have e6 : (c == 1) = false := by simpa using hc1
            by_cases hc2 : c = 2
            · have HQ := Lib.hid (HQ0.out.trans (show stepU M t1 u1 = (M', t', { u1 with fin := 2 }) by unfold stepU; rw [HST.out]; dsimp only; rw [if_neg hc1, if_pos hc2]))
              have e7 : (c == 2) = true := by simpa using hc2
              clear HQ0 hc1 hc2 mB2
              have b4 := HN2.out.c 4 (z := .int .i64 u1.fin) rfl; have f4 := HN2.out.f 4
              have H3 := Lib.hid (HN2.out.set 4 (.int .i64 2) (u' := { u1 with fin := 2 }) rfl rfl rfl)
              go_wp2_with fail
              (first | go_end0 | ((try simp only [Exit.inBlock, Exit.then]); refine bodyPost_ret (results_none rfl _ _ _) rfl ?_))
              rw [HQ.out]
              exact ⟨rfl, NRP.then KW.out (fun g e => .inl e) (NRP.then KK.out GG.out (H3.out.kz (keepsU _ a v X ra wa rv2 wv2 vv2 U rdv2 4 (.int .i64 2))))⟩
            · have HQ := Lib.hid (HQ0.out.trans (show stepU M t1 u1 = (M', t', u1) by unfold stepU; rw [HST.out]; dsimp only; rw [if_neg hc1, if_neg hc2]))
              have e7 : (c == 2) = false := by simpa using hc2
              clear HQ0 hc1 hc2 mB2
              go_wp2_with fail
              (first | go_end0 | ((try simp only [Exit.inBlock, Exit.then]); refine bodyPost_ret (results_none rfl _ _ _) rfl ?_))
              rw [HQ.out]
              exact ⟨rfl, NRP.then KW.out (fun g e => .inl e) (NRP.then KK.out GG.out HN2.out.self)⟩
        · have e4 : (u1.fin != 0) = true := by simpa using hf1
          have HQ := Lib.hid (HNX.out.symm.trans (next_quit M t t1 u u1 HF.out HLO.out hf1))
          have c4 := HN1.out.c 4 (z := .int .i64 u1.fin) rfl
          clear hf1 mB mB1 hbz
          go_wp2_with fail
          (first | go_end0 | ((try simp only [Exit.inBlock, Exit.then]); refine bodyPost_ret (results_none rfl _ _ _) rfl ?_))
          rw [HQ.out]
          exact ⟨rfl, NRP.then KW.out (fun g e => .inl e) (NRP.then HK1.out HG1.out HN1.out.self)⟩
      | false =>
        have c3 := HN1.out.c 3 (z := .bool false) (by rw [← hbz]; rfl)
        by_cases hf1 : u1.fin = 0
        · have e4 : (u1.fin == 0) = true := by simpa using hf1
          have c4 := HN1.out.c 4 (z := .int .i64 u1.fin) rfl
          have HC := Lib.hid (show u1.busy = false ∧ u1.fin = 0 from ⟨hbz, hf1⟩)
          clear hf1 hbz
          obtain ⟨m0, m1, m2, m3, m4⟩ := mB1
          go_wp2_with (go_at_call 36; refine (rask_any HN1.out HR1.out.i0 HR1.out.pl HR1.out.rl HT1.out.small).mono ?_; rintro e w2 ⟨rfl, rv2, wv2, vv2, rdv2, hN2, hk2, hg2⟩)
          have hms := HMS.out HC.out
          obtain ⟨g', hg'⟩ : ∃ g', gk = g' + 1 := ⟨gk - 1, by omega⟩
          have hal : askLoop (u.P.length + 3) t u = askLoop g' (askU t1 u1).1 (askU t1 u1).2 := by rw [HAL.out, hg', loop_in _ _ _ HC.out]
          go_roundg (g')
          case measure => omega
          case rel =>
            refine ⟨_, _, rv2, wv2, vv2, rdv2, hal, HT1.out.ask _, HR1.out.ask _, (ask_P _ _).trans HP1.out, fun hb => ?_, hN2, HK1.out.trans' hk2 (fun i hi e => (HG1.out i e).elim id (fun z => by omega)), fun g e => ?_⟩
            · have := ask_on t1 u1 HR1.out.i1 hb
              rw [HP1.out] at this
              omega
            · rcases hg2 g e with e2 | e2
              · exact HG1.out g e2
              · have := HK1.out.size; exact .inr (by omega)
        · have e4 : (u1.fin == 0) = false := by simpa using hf1
          have e5 : (u1.fin != 0) = true := by simpa using hf1
          have HLO := Lib.hid (HAL.out.trans (loop_out _ t1 u1 (fun e => hf1 e.2)))
          have HQ := Lib.hid (HNX.out.symm.trans (next_quit M t t1 u u1 HF.out HLO.out hf1))
          have c4 := HN1.out.c 4 (z := .int .i64 u1.fin) rfl
          clear hf1 mB mB1 hbz
          go_wp2_with fail
          (first | go_end0 | ((try simp only [Exit.inBlock, Exit.then]); refine bodyPost_ret (results_none rfl _ _ _) rfl ?_))
          rw [HQ.out]
          exact ⟨rfl, NRP.then KW.out (fun g e => .inl e) (NRP.then HK1.out HG1.out HN1.out.self)⟩
  · rw [← HNX.out, next_end M t u hf]
    have e1 : (u.fin != 0) = true := by simpa using hf
    clear HNX hf
    go_enter Try.func10, Try.ntmps10
    go_upto_region 1 with fail
    rw [hB] at nB mB hBl
    (try rw [hB])
    generalize w.alloc (.cells #[.int .i64 3, .int .i64 1, .int .i64 3, .int .i64 0, .int .i64 4] 25) = W at *
    have b4 := H0.out.c 4 (z := .int .i64 u.fin) rfl; have hl := H0.out.lt
    go_wp2_with fail
    (first | go_end0 | ((try simp only [Exit.inBlock, Exit.then]); refine bodyPost_ret (results_none rfl _ _ _) rfl ?_))
    exact ⟨rfl, NRP.then KW.out (fun g e => .inl e) H0.out.self⟩
end Go.Proofs.Ytfnmgccbghlbjaa
