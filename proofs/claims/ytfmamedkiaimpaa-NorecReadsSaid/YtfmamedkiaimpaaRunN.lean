/- A run asks the next thing of its plan. -/
import Derived.Test.YtfmamedkiaimpaaRun
import Derived.Deep.LoopGhost
namespace Go.Proofs.Ytfmamedkiaimpaa
open Go.RowKit
/-- a word's place -/
def dA (k : Int) : Int := dataP ⟨3, 1, 3, 0, 4⟩ k
def tailU (t : TxS) (u : RunM) (c : Int) : TxS × RunM := if c = 1 then (t, doneU { u with busy := false } t.value) else if c = 2 then (t, { u with busy := false, fin := 2 }) else (t, { u with busy := true })
def askR (t : TxS) (u : RunM) : TxS × Int :=
  if u.i = 0 then beginT t else if (u.P.length : Int) < u.i then commitAsk t
  else if (u.P.getD (u.i.toNat - 1) op0).1 = 0 then readT t (dA (u.P.getD (u.i.toNat - 1) op0).2.1)
  else writeT t (dA (u.P.getD (u.i.toNat - 1) op0).2.1) (valU u.rd (u.P.getD (u.i.toNat - 1) op0).2.1 (u.P.getD (u.i.toNat - 1) op0).2.2)
def askU (t : TxS) (u : RunM) : TxS × RunM := tailU (askR t u).1 u (askR t u).2
theorem undoneT_c (t : TxS) : (undoneT t).2 = 0 ∨ (undoneT t).2 = 2 := by
  unfold undoneT
  split
  · exact .inl rfl
  · exact .inr rfl
theorem abortT_c (t : TxS) (c : Int) : (abortT t c).2 = 0 ∨ (abortT t c).2 = 2 := undoneT_c _
theorem beginT_c (t : TxS) : (beginT t).2 = 0 ∨ (beginT t).2 = 2 := by
  unfold beginT
  split
  · exact .inl rfl
  · exact .inr rfl
theorem commitAsk_c (t : TxS) : (commitAsk t).2 = 0 ∨ (commitAsk t).2 = 2 := by
  unfold commitAsk
  split
  · exact .inl rfl
  · exact .inr rfl
theorem readT_c (t : TxS) (p : Int) : (readT t p).2 = 0 ∨ (readT t p).2 = 1 ∨ (readT t p).2 = 2 := by
  unfold readT
  split
  · split
    · exact .inr (.inl rfl)
    · split
      · exact (abortT_c _ _).imp id .inr
      · exact .inl rfl
  · exact .inr (.inr rfl)
theorem writeT_c (t : TxS) (p x : Int) : (writeT t p x).2 = 0 ∨ (writeT t p x).2 = 1 ∨ (writeT t p x).2 = 2 := by
  unfold writeT
  split
  · split
    · exact (abortT_c _ _).imp id .inr
    · split
      · exact .inr (.inl rfl)
      · exact (abortT_c _ _).imp id .inr
  · exact .inr (.inr rfl)
theorem NR.lo {w : World} {a X ra wa U : Nat} {v rv wv vv pv rdv : Value} {M : MemS} {t : TxS} {u : RunM} (h : NR w a v M X ra wa rv wv vv t U pv rdv u) {g : Nat} (e : ruO a v X ra wa rv wv vv U rdv g) : g < w.heap.size := by
  rcases e with e | e | e
  · exact h.bd e
  · rw [e]; exact h.lt
  · exact (h.rd.lt g e).2
/-- what is outside stays outside -/
theorem out_then {w : World} {a X ra wa U : Nat} {v rv wv vv rdv rv' wv' vv' rdv' : Value} {g : Nat} (hg : ∀ g, ruO a v X ra wa rv' wv' vv' U rdv' g → ruO a v X ra wa rv wv vv U rdv g ∨ w.heap.size ≤ g) (hn : ¬ ruO a v X ra wa rv wv vv U rdv g) (hl : g < w.heap.size) : ¬ ruO a v X ra wa rv' wv' vv' U rdv' g := fun e => (hg g e).elim hn (fun z => by omega)

set_option maxHeartbeats 8000000 in
set_option maxRecDepth 100000 in
theorem rask_any {w : World} {a X ra wa U : Nat} {v rv wv vv pv rdv : Value} {M : MemS} {t : TxS} {u : RunM} (h : NR w a v M X ra wa rv wv vv t U pv rdv u) (h0 : 0 ≤ u.i) (hP : u.P.length < 1000000) (hr : u.rd.length < 1000000) (hsm : t.W.length < 4096) : Calls Try.prog 38 #[.pointer (some ⟨U, 0, none⟩), .agg #[.int .i64 3, .int .i64 1, .int .i64 3, .int .i64 0, .int .i64 4]] w fun e w' => e = .returned (.tuple #[]) ∧ NRP w w' a v M X ra wa rv wv vv (askU t u).1 U pv rdv (askU t u).2 := by
  have hk0 := (Keeps.refl NoS w).alloc (.cells #[.int .i64 3, .int .i64 1, .int .i64 3, .int .i64 0, .int .i64 4] 31)
  have H0 := Lib.hid (h.no hk0)
  have nB : ¬ ruO a v X ra wa rv wv vv U rdv w.heap.size := fun e => by have := h.lo e; omega
  have mB := mapAt_new w 3 1 3 0 4 31
  have hBl : w.heap.size < (w.alloc (.cells #[.int .i64 3, .int .i64 1, .int .i64 3, .int .i64 0, .int .i64 4] 31)).heap.size := by simp
  have KW := Lib.hid (hk0.no (S := ruO a v X ra wa rv wv vv U rdv))
  obtain ⟨B, hB⟩ : ∃ B, w.heap.size = B := ⟨_, rfl⟩
  obtain ⟨⟨tt, cc⟩, hc⟩ : ∃ q, askR t u = q := ⟨_, rfl⟩
  have HC := Lib.hid hc
  by_cases hz : u.i = 0
  · have hA : askR t u = beginT t := by unfold askR; rw [if_pos hz]
    rw [hA] at hc
    have e1 : (u.i == 0) = true := by simpa using hz
    have HQ := Lib.hid hc
    clear hA hc
    go_enter Try.func38, Try.ntmps38
    go_upto_region 1 with fail
    rw [hB] at nB mB hBl
    (try rw [hB])
    generalize w.alloc (.cells #[.int .i64 3, .int .i64 1, .int .i64 3, .int .i64 0, .int .i64 4] 31) = W at *
    have b0 := H0.out.c 0 (z := .pointer (some ⟨X, 0, none⟩)) rfl; have b2 := H0.out.c 2 (z := .int .i64 u.i) rfl; have hl := H0.out.lt
    go_upto_region 10 with (go_at_call 29; refine (xBegin_any H0.out.nx).mono ?_; rw [HQ.out]; rintro e w2 ⟨rfl, hT⟩)
    clear b0 b2 hl
    (try dsimp only at hT)
    (try dsimp only)
    obtain ⟨rv1, wv1, vv1, rdv1, hN, hk1', hg1'⟩ := H0.out.tx hT
    have mB2 := mB.keep hk1' nB
    have nB2 := out_then hg1' nB hBl
    have hk1 := KW.out.trans hk1'
    have hg1 : ∀ g, ruO a v X ra wa rv1 wv1 vv1 U rdv1 g → ruO a v X ra wa rv wv vv U rdv g ∨ w.heap.size ≤ g := fun g e => (hg1' g e).imp id (fun z => Nat.le_trans KW.out.size z)
    clear hk1' hg1' nB mB hBl
    have hcr := (show cc = 0 ∨ cc = 2 from by have := beginT_c t; rw [HQ.out] at this; exact this)
    rcases hcr with hcc | hcc
    · subst hcc
      have HQU := Lib.hid (show askU t u = (tt, { u with busy := true }) by unfold askU tailU; rw [HC.out]; rfl)
      clear HC
      have b3 := hN.c 3 (z := .bool u.busy) rfl; have f3 := hN.f 3; have hl := hN.lt
      go_upto_region 11 with fail
      have h3 := hN.set 3 (.bool true) (u' := { u with busy := true }) rfl rfl rfl
      have k3 := keepsU w2 a v X ra wa rv1 wv1 vv1 U rdv1 3 (.bool true)
      have mB3 := mB2.keep k3 nB2
      generalize w2.setCell ⟨U, 3, none⟩ (.bool true) = w3 at *
      clear b3 f3 hl
      clear mB2 mB3
      go_wp2_with fail
      (first | go_end0 | ((try simp only [Exit.inBlock, Exit.then]); refine bodyPost_ret (results_none rfl _ _ _) rfl ?_))
      rw [HQU.out]
      exact ⟨rfl, NRP.then hk1 hg1 (h3.kz k3)⟩
    · subst hcc
      have HQU := Lib.hid (show askU t u = (tt, { u with busy := false, fin := 2 }) by unfold askU tailU; rw [HC.out]; rfl)
      clear HC
      have b3 := hN.c 3 (z := .bool u.busy) rfl; have f3 := hN.f 3; have hl := hN.lt
      go_upto_region 11 with fail
      have h3 := hN.set 3 (.bool false) (u' := { u with busy := false }) rfl rfl rfl
      have k3 := keepsU w2 a v X ra wa rv1 wv1 vv1 U rdv1 3 (.bool false)
      have mB3 := mB2.keep k3 nB2
      generalize w2.setCell ⟨U, 3, none⟩ (.bool false) = w3 at *
      clear b3 f3 hl
      clear mB2 mB3
      have b4 := h3.c 4 (z := .int .i64 u.fin) rfl; have f4 := h3.f 4; have hl := h3.lt
      go_wp2_with fail
      (first | go_end0 | ((try simp only [Exit.inBlock, Exit.then]); refine bodyPost_ret (results_none rfl _ _ _) rfl ?_))
      rw [HQU.out]
      exact ⟨rfl, NRP.then hk1 hg1 ((h3.set 4 (.int .i64 2) (u' := { u with busy := false, fin := 2 }) rfl rfl rfl).kz (k3.trans (keepsU _ a v X ra wa rv1 wv1 vv1 U rdv1 4 (.int .i64 2))))⟩

  · have e1 : (u.i == 0) = false := by simpa using hz
    by_cases hA : (u.P.length : Int) < u.i
    · have hB' : askR t u = commitAsk t := by unfold askR; rw [if_neg hz, if_pos hA]
      rw [hB'] at hc
      have e2 : decide ((u.P.length : Int) < u.i) = true := decide_eq_true hA
      have HQ := Lib.hid hc
      clear hB' hc
      obtain ⟨pp, pc, hpv⟩ := h.pl.sl
      subst hpv
      go_enter Try.func38, Try.ntmps38
      go_upto_region 1 with fail
      rw [hB] at nB mB hBl
      (try rw [hB])
      generalize w.alloc (.cells #[.int .i64 3, .int .i64 1, .int .i64 3, .int .i64 0, .int .i64 4] 31) = W at *
      have b0 := H0.out.c 0 (z := .pointer (some ⟨X, 0, none⟩)) rfl; have b1 := H0.out.c 1 (z := .slice pp u.P.length pc) rfl; have b2 := H0.out.c 2 (z := .int .i64 u.i) rfl; have hl := H0.out.lt
      go_upto_region 6 with fail
      go_quiet (fail)
      have H1 := Lib.hid (H0.out.no ((Keeps.refl NoS W).drewN nq))
      have KW1 := Lib.hid (KW.out.drewN nq)
      have mB1 := mB.keep ((Keeps.refl NoS W).drewN nq) (fun f => f)
      have hB1 : B < (W.drewN nq).heap.size := hBl
      generalize W.drewN nq = W1 at *
      clear b0 b1 b2 hl mB hBl KW H0

      have b0 := H1.out.c 0 (z := .pointer (some ⟨X, 0, none⟩)) rfl; have hl := H1.out.lt
      go_upto_region 10 with (go_at_call 32; refine (xCommit_any H1.out.nx).mono ?_; rw [HQ.out]; rintro e w2 ⟨rfl, hT, hkT⟩)
      clear b0 hl
      obtain ⟨rv1, wv1, vv1, rdv1, hN, hk1', hg1'⟩ := H1.out.tx (H1.out.nx.kx hkT hT)
      have mB2 := mB1.keep hk1' nB
      have nB2 := out_then hg1' nB hB1
      have hk1 := KW1.out.trans hk1'
      have hg1 : ∀ g, ruO a v X ra wa rv1 wv1 vv1 U rdv1 g → ruO a v X ra wa rv wv vv U rdv g ∨ w.heap.size ≤ g := fun g e => (hg1' g e).imp id (fun z => Nat.le_trans KW1.out.size z)
      clear hk1' hg1' nB mB1 hB1
      have hcr := (show cc = 0 ∨ cc = 2 from by have := commitAsk_c t; rw [HQ.out] at this; exact this)
      rcases hcr with hcc | hcc
      · subst hcc
        have HQU := Lib.hid (show askU t u = (tt, { u with busy := true }) by unfold askU tailU; rw [HC.out]; rfl)
        clear HC
        have b3 := hN.c 3 (z := .bool u.busy) rfl; have f3 := hN.f 3; have hl := hN.lt
        go_upto_region 11 with fail
        have h3 := hN.set 3 (.bool true) (u' := { u with busy := true }) rfl rfl rfl
        have k3 := keepsU w2 a v X ra wa rv1 wv1 vv1 U rdv1 3 (.bool true)
        have mB3 := mB2.keep k3 nB2
        generalize w2.setCell ⟨U, 3, none⟩ (.bool true) = w3 at *
        clear b3 f3 hl
        clear mB2 mB3
        go_wp2_with fail
        (first | go_end0 | ((try simp only [Exit.inBlock, Exit.then]); refine bodyPost_ret (results_none rfl _ _ _) rfl ?_))
        rw [HQU.out]
        exact ⟨rfl, NRP.then hk1 hg1 (h3.kz k3)⟩
      · subst hcc
        have HQU := Lib.hid (show askU t u = (tt, { u with busy := false, fin := 2 }) by unfold askU tailU; rw [HC.out]; rfl)
        clear HC
        have b3 := hN.c 3 (z := .bool u.busy) rfl; have f3 := hN.f 3; have hl := hN.lt
        go_upto_region 11 with fail
        have h3 := hN.set 3 (.bool false) (u' := { u with busy := false }) rfl rfl rfl
        have k3 := keepsU w2 a v X ra wa rv1 wv1 vv1 U rdv1 3 (.bool false)
        have mB3 := mB2.keep k3 nB2
        generalize w2.setCell ⟨U, 3, none⟩ (.bool false) = w3 at *
        clear b3 f3 hl
        clear mB2 mB3
        have b4 := h3.c 4 (z := .int .i64 u.fin) rfl; have f4 := h3.f 4; have hl := h3.lt
        go_wp2_with fail
        (first | go_end0 | ((try simp only [Exit.inBlock, Exit.then]); refine bodyPost_ret (results_none rfl _ _ _) rfl ?_))
        rw [HQU.out]
        exact ⟨rfl, NRP.then hk1 hg1 ((h3.set 4 (.int .i64 2) (u' := { u with busy := false, fin := 2 }) rfl rfl rfl).kz (k3.trans (keepsU _ a v X ra wa rv1 wv1 vv1 U rdv1 4 (.int .i64 2))))⟩

    · have e2 : decide ((u.P.length : Int) < u.i) = false := decide_eq_false hA
      obtain ⟨k, hk⟩ : ∃ k : Nat, u.i = (k : Int) + 1 := ⟨u.i.toNat - 1, by omega⟩
      have hkl : k < u.P.length := by omega
      have hke : u.i.toNat - 1 = k := by omega
      rcases h.pl with ⟨_, hv⟩ | ⟨pg, pcap, hvv, hgl, hcs⟩
      · rw [hv] at hkl; exact absurd hkl (by simp)
      obtain ⟨d0, d1, d2⟩ := hcs k hkl
      obtain ⟨⟨kd, at_, x⟩, hq⟩ : ∃ q, u.P.getD k op0 = q := ⟨_, rfl⟩
      have hD : askR t u = (if kd = 0 then readT t (dA at_) else writeT t (dA at_) (valU u.rd at_ x)) := by
        unfold askR; rw [if_neg hz, if_neg hA, hke, hq]
      rw [hD] at hc
      rw [hq] at d0 d1 d2
      dsimp only at d0 d1 d2
      have k0 : (0 : Int) ≤ (k : Int) := by omega
      have k1 : (k : Int) < (u.P.length : Int) := by omega
      have hwk : IntKind.i64.wrap (k : Int) = (k : Int) := IntWalk.i64_in _ (by omega)
      have hpg := h.dP pg (by rw [hvv]; rfl)
      have npg : ¬ ruO a v X ra wa rv wv vv U rdv pg := fun e => e.elim hpg.2.2 (fun e => e.elim hpg.2.1 (fun e => (h.dR pg e).2.1 (by rw [hvv]; rfl)))
      have d0 := hk0.cell d0 (fun f => f); have d1 := hk0.cell d1 (fun f => f); have d2 := hk0.cell d2 (fun f => f)
      have HI := Lib.hid hk
      have e1 : ((k : Int) + 1 == 0) = false := by rw [← hk]; exact e1
      have e2 : decide ((u.P.length : Int) < (k : Int) + 1) = false := by rw [← hk]; exact e2
      subst hvv
      have NPG := Lib.hid npg
      clear hpg hcs hq hke hD hA hz npg
      by_cases hkd : kd = 0
      · rw [if_pos hkd] at hc
        have e3 : (kd == 0) = true := by simpa using hkd
        have HQ := Lib.hid hc
        clear hc
        go_enter Try.func38, Try.ntmps38
        go_upto_region 1 with fail
        rw [hB] at nB mB hBl
        (try rw [hB])
        generalize w.alloc (.cells #[.int .i64 3, .int .i64 1, .int .i64 3, .int .i64 0, .int .i64 4] 31) = W at *
        have b0 := H0.out.c 0 (z := .pointer (some ⟨X, 0, none⟩)) rfl; have b1 := H0.out.c 1 (z := .slice (some ⟨pg, 0, none⟩) u.P.length pcap) rfl; have b2 := H0.out.c 2 (z := .int .i64 ((k : Int) + 1)) (by rw [← HI.out]; rfl); have hl := H0.out.lt
        go_upto_region 6 with fail
        go_quiet (fail)
        have H1 := Lib.hid (H0.out.no ((Keeps.refl NoS W).drewN nq))
        have KW1 := Lib.hid (KW.out.drewN nq)
        have mB1 := mB.keep ((Keeps.refl NoS W).drewN nq) (fun f => f)
        have hB1 : B < (W.drewN nq).heap.size := hBl
        have d0 := ((Keeps.refl NoS W).drewN nq).cell d0 (fun f => f); have d1 := ((Keeps.refl NoS W).drewN nq).cell d1 (fun f => f); have d2 := ((Keeps.refl NoS W).drewN nq).cell d2 (fun f => f)
        generalize W.drewN nq = W1 at *
        clear b0 b1 b2 hl mB hBl KW H0
        have b0 := H1.out.c 0 (z := .pointer (some ⟨X, 0, none⟩)) rfl; have b1 := H1.out.c 1 (z := .slice (some ⟨pg, 0, none⟩) u.P.length pcap) rfl; have b2 := H1.out.c 2 (z := .int .i64 ((k : Int) + 1)) (by rw [← HI.out]; rfl); have hl := H1.out.lt
        go_upto_region 8 with fail
        go_quiet (fail)
        have H2 := Lib.hid (H1.out.no ((Keeps.refl NoS W1).drewN nq))
        have KW2 := Lib.hid (KW1.out.drewN nq)
        have mB2 := mB1.keep ((Keeps.refl NoS W1).drewN nq) (fun f => f)
        have hB2 : B < (W1.drewN nq).heap.size := hB1
        have d0 := ((Keeps.refl NoS W1).drewN nq).cell d0 (fun f => f); have d1 := ((Keeps.refl NoS W1).drewN nq).cell d1 (fun f => f); have d2 := ((Keeps.refl NoS W1).drewN nq).cell d2 (fun f => f)
        generalize W1.drewN nq = W2 at *
        clear b0 b1 b2 hl mB1 hB1 KW1 H1
        have b0 := H2.out.c 0 (z := .pointer (some ⟨X, 0, none⟩)) rfl; have b1 := H2.out.c 1 (z := .slice (some ⟨pg, 0, none⟩) u.P.length pcap) rfl; have b2 := H2.out.c 2 (z := .int .i64 ((k : Int) + 1)) (by rw [← HI.out]; rfl); have hl := H2.out.lt
        go_upto_region 9 with fail
        have HS := Lib.hid (show ∀ (w' : World) (rv' wv' vv' rdv' : Value) (M' : MemS) (t' : TxS), NR w' a v M' X ra wa rv' wv' vv' t' U (.slice (some ⟨pg, 0, none⟩) u.P.length pcap) rdv' u → Keeps (ruO a v X ra wa rv wv vv U rdv) W2 w' → w'.cell? ⟨U, 0, none⟩ = some (.pointer (some ⟨X, 0, none⟩)) ∧ w'.cell? ⟨U, 1, none⟩ = some (.slice (some ⟨pg, 0, none⟩) u.P.length pcap) ∧ w'.cell? ⟨U, 2, none⟩ = some (.int .i64 ((k : Int) + 1)) ∧ w'.cell? ⟨B, 0, none⟩ = some (.int .i64 3) ∧ w'.cell? ⟨B, 1, none⟩ = some (.int .i64 1) ∧ w'.cell? ⟨B, 2, none⟩ = some (.int .i64 3) ∧ w'.cell? ⟨B, 3, none⟩ = some (.int .i64 0) ∧ w'.cell? ⟨B, 4, none⟩ = some (.int .i64 4) ∧ w'.cell? ⟨pg, k * 3 + 1, none⟩ = some (.int .i64 at_) from fun w' rv' wv' vv' rdv' M' t' Z kk =>
          ⟨by rw [blk_cell Z.hd]; rfl, by rw [blk_cell Z.hd]; rfl, by rw [blk_cell Z.hd, ← HI.out]; rfl, kk.cell mB2.1 nB, kk.cell mB2.2.1 nB, kk.cell mB2.2.2.1 nB, kk.cell mB2.2.2.2.1 nB, kk.cell mB2.2.2.2.2 nB, kk.cell d1 NPG.out⟩)
        clear b0 b1 b2 hl d0 d1 d2
        have nB2 := nB
        have HB2 := Lib.hid hB2
        clear hB2
        refine wp_region_held_drew (S := (fun w' => w'.cell? ⟨U, 0, none⟩ = some (.pointer (some ⟨X, 0, none⟩)) ∧ w'.cell? ⟨U, 1, none⟩ = some (.slice (some ⟨pg, 0, none⟩) u.P.length pcap) ∧ w'.cell? ⟨U, 2, none⟩ = some (.int .i64 ((k : Int) + 1)) ∧ w'.cell? ⟨B, 0, none⟩ = some (.int .i64 3) ∧ w'.cell? ⟨B, 1, none⟩ = some (.int .i64 1) ∧ w'.cell? ⟨B, 2, none⟩ = some (.int .i64 3) ∧ w'.cell? ⟨B, 3, none⟩ = some (.int .i64 0) ∧ w'.cell? ⟨B, 4, none⟩ = some (.int .i64 4) ∧ w'.cell? ⟨pg, k * 3 + 1, none⟩ = some (.int .i64 at_))) (by kernel_rfl) ((HS.out _ _ _ _ _ _ _ (H2.out.no (Keeps.refl NoS W2).drew) (Keeps.refl _ W2).drew)) (fun hHeld => ?_)
        refine wpAnyH_take (i := 0) (v := ?_) (by simp only [List.getElem?_toArray, List.getElem?_cons_succ, List.getElem?_cons_zero]; rfl) (by kernel_rfl) (by kernel_rfl) (by kernel_rfl) (by exact fun _ _ _ h => h) (Or.inl ⟨by rfl, ?_⟩) hHeld ?_
        rotate_left
        · intro w hSw; (try dsimp only at hSw); go_simp; (try with_reducible rfl)
        try simp only [Act.put, List.setIfInBounds_toArray, List.set_cons_zero, List.set_cons_succ, hwk]
        refine wpAnyH_take (i := 1) (v := ?_) (by simp only [List.getElem?_toArray, List.getElem?_cons_succ, List.getElem?_cons_zero]; rfl) (by kernel_rfl) (by kernel_rfl) (by kernel_rfl) (by exact fun _ _ _ h => h) (Or.inl ⟨by rfl, ?_⟩) hHeld ?_
        rotate_left
        · intro w hSw; (try dsimp only at hSw); go_simp; (try with_reducible rfl)
        try simp only [Act.put, List.setIfInBounds_toArray, List.set_cons_zero, List.set_cons_succ, hwk]
        refine wpAnyH_take (i := 2) (v := ?_) (by simp only [List.getElem?_toArray, List.getElem?_cons_succ, List.getElem?_cons_zero]; rfl) (by kernel_rfl) (by kernel_rfl) (by kernel_rfl) (by exact fun _ _ _ h => h) (Or.inl ⟨by rfl, ?_⟩) hHeld ?_
        rotate_left
        · intro w hSw; (try dsimp only at hSw); go_simp; (try with_reducible rfl)
        try simp only [Act.put, List.setIfInBounds_toArray, List.set_cons_zero, List.set_cons_succ, hwk]
        refine wpAnyH_take (i := 3) (v := ?_) (by simp only [List.getElem?_toArray, List.getElem?_cons_succ, List.getElem?_cons_zero]; rfl) (by kernel_rfl) (by kernel_rfl) (by kernel_rfl) (by exact fun _ _ _ h => h) (Or.inl ⟨by rfl, ?_⟩) hHeld ?_
        rotate_left
        · intro w hSw; (try dsimp only at hSw); go_simp; (try with_reducible rfl)
        try simp only [Act.put, List.setIfInBounds_toArray, List.set_cons_zero, List.set_cons_succ, hwk]
        refine wpAnyH_take (i := 4) (v := ?_) (by simp only [List.getElem?_toArray, List.getElem?_cons_succ, List.getElem?_cons_zero]; rfl) (by kernel_rfl) (by kernel_rfl) (by kernel_rfl) (by exact fun _ _ _ h => h) (Or.inl ⟨by rfl, ?_⟩) hHeld ?_
        rotate_left
        · intro w hSw; (try dsimp only at hSw); go_simp; (try with_reducible rfl)
        try simp only [Act.put, List.setIfInBounds_toArray, List.set_cons_zero, List.set_cons_succ, hwk]
        refine wpAnyH_take (i := 5) (v := ?_) (by simp only [List.getElem?_toArray, List.getElem?_cons_succ, List.getElem?_cons_zero]; rfl) (by kernel_rfl) (by kernel_rfl) (by kernel_rfl) (by exact fun _ _ _ h => h) (Or.inl ⟨by rfl, ?_⟩) hHeld ?_
        rotate_left
        · intro w hSw; (try dsimp only at hSw); go_simp; (try with_reducible rfl)
        try simp only [Act.put, List.setIfInBounds_toArray, List.set_cons_zero, List.set_cons_succ, hwk]
        refine wpAnyH_take (i := 6) (v := ?_) (by simp only [List.getElem?_toArray, List.getElem?_cons_succ, List.getElem?_cons_zero]; rfl) (by kernel_rfl) (by kernel_rfl) (by kernel_rfl) (by exact fun _ _ _ h => h) (Or.inl ⟨by rfl, ?_⟩) hHeld ?_
        rotate_left
        · intro w hSw; (try dsimp only at hSw); go_simp; (try with_reducible rfl)
        try simp only [Act.put, List.setIfInBounds_toArray, List.set_cons_zero, List.set_cons_succ, hwk]
        refine wpAnyH_take (i := 7) (v := ?_) (by simp only [List.getElem?_toArray, List.getElem?_cons_succ, List.getElem?_cons_zero]; rfl) (by kernel_rfl) (by kernel_rfl) (by kernel_rfl) (by exact fun _ _ _ h => h) (Or.inl ⟨by rfl, ?_⟩) hHeld ?_
        rotate_left
        · intro w hSw; (try dsimp only at hSw); go_simp; (try with_reducible rfl)
        try simp only [Act.put, List.setIfInBounds_toArray, List.set_cons_zero, List.set_cons_succ, hwk]
        refine wpAnyH_take (i := 8) (v := ?_) (by simp only [List.getElem?_toArray, List.getElem?_cons_succ, List.getElem?_cons_zero]; rfl) (by kernel_rfl) (by kernel_rfl) (by kernel_rfl) (by exact fun _ _ _ h => h) (Or.inl ⟨by rfl, ?_⟩) hHeld ?_
        rotate_left
        · intro w hSw; (try dsimp only at hSw); go_simp; (try with_reducible rfl)
        try simp only [Act.put, List.setIfInBounds_toArray, List.set_cons_zero, List.set_cons_succ, hwk]
        refine wpAnyH_take (i := 9) (v := ?_) (by simp only [List.getElem?_toArray, List.getElem?_cons_succ, List.getElem?_cons_zero]; rfl) (by kernel_rfl) (by kernel_rfl) (by kernel_rfl) (by exact fun _ _ _ h => h) (Or.inl ⟨by rfl, ?_⟩) hHeld ?_
        rotate_left
        · intro w hSw; (try dsimp only at hSw); go_simp; (try with_reducible rfl)
        try simp only [Act.put, List.setIfInBounds_toArray, List.set_cons_zero, List.set_cons_succ, hwk]
        refine wpAnyH_take (i := 10) (v := ?_) (by simp only [List.getElem?_toArray, List.getElem?_cons_succ, List.getElem?_cons_zero]; rfl) (by kernel_rfl) (by kernel_rfl) (by kernel_rfl) (by exact fun _ _ _ h => h) (Or.inl ⟨by rfl, ?_⟩) hHeld ?_
        rotate_left
        · intro w hSw; (try dsimp only at hSw); go_simp; (try with_reducible rfl)
        try simp only [Act.put, List.setIfInBounds_toArray, List.set_cons_zero, List.set_cons_succ, hwk]
        refine wpAnyH_take (i := 11) (v := ?_) (by simp only [List.getElem?_toArray, List.getElem?_cons_succ, List.getElem?_cons_zero]; rfl) (by kernel_rfl) (by kernel_rfl) (by kernel_rfl) (by exact fun _ _ _ h => h) (Or.inl ⟨by rfl, ?_⟩) hHeld ?_
        rotate_left
        · intro w hSw; (try dsimp only at hSw); go_simp; (try with_reducible rfl)
        try simp only [Act.put, List.setIfInBounds_toArray, List.set_cons_zero, List.set_cons_succ, hwk]
        refine wpAnyH_take (i := 12) (v := ?_) (by simp only [List.getElem?_toArray, List.getElem?_cons_succ, List.getElem?_cons_zero]; rfl) (by kernel_rfl) (by kernel_rfl) (by kernel_rfl) (by exact fun _ _ _ h => h) (Or.inl ⟨by rfl, ?_⟩) hHeld ?_
        rotate_left
        · intro w hSw; (try dsimp only at hSw); go_simp; (try with_reducible rfl)
        try simp only [Act.put, List.setIfInBounds_toArray, List.set_cons_zero, List.set_cons_succ, hwk]
        refine wpAnyH_take (i := 13) (v := ?_) (by simp only [List.getElem?_toArray, List.getElem?_cons_succ, List.getElem?_cons_zero]; rfl) (by kernel_rfl) (by kernel_rfl) (by kernel_rfl) (by exact fun _ _ _ h => h) (Or.inl ⟨by rfl, ?_⟩) hHeld ?_
        rotate_left
        · intro w hSw; (try dsimp only at hSw); go_simp; (try with_reducible rfl)
        try simp only [Act.put, List.setIfInBounds_toArray, List.set_cons_zero, List.set_cons_succ, hwk]
        refine wpAnyH_take (i := 14) (v := ?_) (by simp only [List.getElem?_toArray, List.getElem?_cons_succ, List.getElem?_cons_zero]; rfl) (by kernel_rfl) (by kernel_rfl) (by kernel_rfl) (by exact fun _ _ _ h => h) (Or.inl ⟨by rfl, ?_⟩) hHeld ?_
        rotate_left
        · intro w hSw; (try dsimp only at hSw); go_simp; (try with_reducible rfl)
        try simp only [Act.put, List.setIfInBounds_toArray, List.set_cons_zero, List.set_cons_succ, hwk]
        refine wpAnyH_take (i := 15) (v := ?_) (by simp only [List.getElem?_toArray, List.getElem?_cons_succ, List.getElem?_cons_zero]; rfl) (by kernel_rfl) (by kernel_rfl) (by kernel_rfl) (by exact fun _ _ _ h => h) (Or.inl ⟨by rfl, ?_⟩) hHeld ?_
        rotate_left
        · intro w hSw; (try dsimp only at hSw); go_simp; (try with_reducible rfl)
        try simp only [Act.put, List.setIfInBounds_toArray, List.set_cons_zero, List.set_cons_succ, hwk]
        refine wpAnyH_take (i := 16) (v := ?_) (by simp only [List.getElem?_toArray, List.getElem?_cons_succ, List.getElem?_cons_zero]; rfl) (by kernel_rfl) (by kernel_rfl) (by kernel_rfl) (by exact fun _ _ _ h => h) (Or.inl ⟨by rfl, ?_⟩) hHeld ?_
        rotate_left
        · intro w hSw; (try dsimp only at hSw); go_simp; (try with_reducible rfl)
        try simp only [Act.put, List.setIfInBounds_toArray, List.set_cons_zero, List.set_cons_succ, hwk]
        refine wpAnyH_ready (rs := [17]) (by kernel_rfl) (by simp) ?_
        refine AllReadyH.cons (by simp only [List.getElem?_toArray, List.getElem?_cons_succ, List.getElem?_cons_zero]; rfl) (fun kC hkC => ?_) AllReadyH.nil
        go_simp
        refine (dataAt_lit 3 1 3 0 4 at_ (dA at_) rfl _).mono ?_; rintro e w3 ⟨rfl, hk3⟩; have kd3 := (Keeps.refl NoS W2).drew.trans hk3; have H3 := Lib.hid (H2.out.no kd3); have mB1 := mB2.keep kd3 (fun f => f); have hB1 := Nat.lt_of_lt_of_le HB2.out kd3.size; have KW1 := KW2.out.trans kd3.no
        (try go_wp2_with fail)
        refine hkC.out _ _ ((HS.out _ _ _ _ _ _ _ H3.out kd3.no)) (fun hHeld => ?_)
        clear hkC kC
        try simp only [Act.put, List.setIfInBounds_toArray, List.set_cons_zero, List.set_cons_succ, hwk]
        refine wpAnyH_ready (rs := [18]) (by kernel_rfl) (by simp) ?_
        refine AllReadyH.cons (by simp only [List.getElem?_toArray, List.getElem?_cons_succ, List.getElem?_cons_zero]; rfl) (fun kC hkC => ?_) AllReadyH.nil
        go_simp
        refine (xRead_any H3.out.nx (dA at_)).mono ?_; rw [HQ.out]; rintro e w2 ⟨rfl, hT⟩; obtain ⟨rv1, wv1, vv1, rdv1, hN, hk1', hg1'⟩ := H3.out.tx hT
        (try go_wp2_with fail)
        refine hkC.out _ _ ((HS.out _ _ _ _ _ _ _ hN (kd3.no.trans hk1'))) (fun hHeld => ?_)
        clear hkC kC
        try simp only [Act.put, List.setIfInBounds_toArray, List.set_cons_zero, List.set_cons_succ, hwk]
        refine wpAnyH_take (i := 19) (v := ?_) (by simp only [List.getElem?_toArray, List.getElem?_cons_succ, List.getElem?_cons_zero]; rfl) (by kernel_rfl) (by kernel_rfl) (by kernel_rfl) (by exact fun _ _ _ h => h) (Or.inl ⟨by rfl, ?_⟩) hHeld ?_
        rotate_left
        · intro w hSw; (try dsimp only at hSw); go_simp; (try with_reducible rfl)
        try simp only [Act.put, List.setIfInBounds_toArray, List.set_cons_zero, List.set_cons_succ, hwk]
        refine wpAnyH_done (by kernel_rfl) ?_ _
        clear mB2
        have mB2 := mB1.keep hk1' nB
        have nB2 := out_then hg1' nB hB1
        have hk1 := KW1.trans hk1'
        have hg1 : ∀ g, ruO a v X ra wa rv1 wv1 vv1 U rdv1 g → ruO a v X ra wa rv wv vv U rdv g ∨ w.heap.size ≤ g := fun g e => (hg1' g e).imp id (fun z => Nat.le_trans KW1.size z)
        clear hk1' hg1' nB mB1 hB1
        have hcr := (show cc = 0 ∨ cc = 1 ∨ cc = 2 from by have := readT_c t (dA at_); rw [HQ.out] at this; exact this)
        rcases hcr with hcc | hcc | hcc
        · subst hcc
          have HQU := Lib.hid (show askU t u = (tt, { u with busy := true }) by unfold askU tailU; rw [HC.out]; rfl)
          clear HC
          have b3 := hN.c 3 (z := .bool u.busy) rfl; have f3 := hN.f 3; have hl := hN.lt
          go_upto_region 11 with fail
          have h3 := hN.set 3 (.bool true) (u' := { u with busy := true }) rfl rfl rfl
          have k3 := keepsU w2 a v X ra wa rv1 wv1 vv1 U rdv1 3 (.bool true)
          have mB3 := mB2.keep k3 nB2
          generalize w2.setCell ⟨U, 3, none⟩ (.bool true) = w3 at *
          clear b3 f3 hl
          clear mB2 mB3
          go_wp2_with fail
          (first | go_end0 | ((try simp only [Exit.inBlock, Exit.then]); refine bodyPost_ret (results_none rfl _ _ _) rfl ?_))
          rw [HQU.out]
          exact ⟨rfl, NRP.then hk1 hg1 (h3.kz k3)⟩
        · subst hcc
          have HQU := Lib.hid (show askU t u = (tt, doneU { u with busy := false } tt.value) by unfold askU tailU; rw [HC.out]; rfl)
          clear HC
          have b3 := hN.c 3 (z := .bool u.busy) rfl; have f3 := hN.f 3; have hl := hN.lt
          go_upto_region 11 with fail
          have h3 := hN.set 3 (.bool false) (u' := { u with busy := false }) rfl rfl rfl
          have k3 := keepsU w2 a v X ra wa rv1 wv1 vv1 U rdv1 3 (.bool false)
          have mB3 := mB2.keep k3 nB2
          generalize w2.setCell ⟨U, 3, none⟩ (.bool false) = w3 at *
          clear b3 f3 hl
          obtain ⟨m0, m1, m2, m3, m4⟩ := mB3
          clear mB2
          go_wp2_with (go_at_call 39; refine (rdone_any h3 h0 hP hr 3 1 3 0 4).mono ?_; rintro e w4 ⟨rfl, hdn⟩)
          (first | go_end0 | ((try simp only [Exit.inBlock, Exit.then]); refine bodyPost_ret (results_none rfl _ _ _) rfl ?_))
          rw [HQU.out]
          exact ⟨rfl, NRP.then hk1 hg1 (NRP.then k3 (fun g e => .inl e) hdn)⟩
        · subst hcc
          have HQU := Lib.hid (show askU t u = (tt, { u with busy := false, fin := 2 }) by unfold askU tailU; rw [HC.out]; rfl)
          clear HC
          have b3 := hN.c 3 (z := .bool u.busy) rfl; have f3 := hN.f 3; have hl := hN.lt
          go_upto_region 11 with fail
          have h3 := hN.set 3 (.bool false) (u' := { u with busy := false }) rfl rfl rfl
          have k3 := keepsU w2 a v X ra wa rv1 wv1 vv1 U rdv1 3 (.bool false)
          have mB3 := mB2.keep k3 nB2
          generalize w2.setCell ⟨U, 3, none⟩ (.bool false) = w3 at *
          clear b3 f3 hl
          clear mB2 mB3
          have b4 := h3.c 4 (z := .int .i64 u.fin) rfl; have f4 := h3.f 4; have hl := h3.lt
          go_wp2_with fail
          (first | go_end0 | ((try simp only [Exit.inBlock, Exit.then]); refine bodyPost_ret (results_none rfl _ _ _) rfl ?_))
          rw [HQU.out]
          exact ⟨rfl, NRP.then hk1 hg1 ((h3.set 4 (.int .i64 2) (u' := { u with busy := false, fin := 2 }) rfl rfl rfl).kz (k3.trans (keepsU _ a v X ra wa rv1 wv1 vv1 U rdv1 4 (.int .i64 2))))⟩

      · rw [if_neg hkd] at hc
        have e3 : (kd == 0) = false := by simpa using hkd
        have HQ := Lib.hid hc
        clear hc
        go_enter Try.func38, Try.ntmps38
        go_upto_region 1 with fail
        rw [hB] at nB mB hBl
        (try rw [hB])
        generalize w.alloc (.cells #[.int .i64 3, .int .i64 1, .int .i64 3, .int .i64 0, .int .i64 4] 31) = W at *
        have b0 := H0.out.c 0 (z := .pointer (some ⟨X, 0, none⟩)) rfl; have b1 := H0.out.c 1 (z := .slice (some ⟨pg, 0, none⟩) u.P.length pcap) rfl; have b2 := H0.out.c 2 (z := .int .i64 ((k : Int) + 1)) (by rw [← HI.out]; rfl); have hl := H0.out.lt
        go_upto_region 6 with fail
        go_quiet (fail)
        have H1 := Lib.hid (H0.out.no ((Keeps.refl NoS W).drewN nq))
        have KW1 := Lib.hid (KW.out.drewN nq)
        have mB1 := mB.keep ((Keeps.refl NoS W).drewN nq) (fun f => f)
        have hB1 : B < (W.drewN nq).heap.size := hBl
        have d0 := ((Keeps.refl NoS W).drewN nq).cell d0 (fun f => f); have d1 := ((Keeps.refl NoS W).drewN nq).cell d1 (fun f => f); have d2 := ((Keeps.refl NoS W).drewN nq).cell d2 (fun f => f)
        generalize W.drewN nq = W1 at *
        clear b0 b1 b2 hl mB hBl KW H0
        have b0 := H1.out.c 0 (z := .pointer (some ⟨X, 0, none⟩)) rfl; have b1 := H1.out.c 1 (z := .slice (some ⟨pg, 0, none⟩) u.P.length pcap) rfl; have b2 := H1.out.c 2 (z := .int .i64 ((k : Int) + 1)) (by rw [← HI.out]; rfl); have hl := H1.out.lt
        go_upto_region 8 with fail
        go_quiet (fail)
        have H2 := Lib.hid (H1.out.no ((Keeps.refl NoS W1).drewN nq))
        have KW2 := Lib.hid (KW1.out.drewN nq)
        have mB2 := mB1.keep ((Keeps.refl NoS W1).drewN nq) (fun f => f)
        have hB2 : B < (W1.drewN nq).heap.size := hB1
        have d0 := ((Keeps.refl NoS W1).drewN nq).cell d0 (fun f => f); have d1 := ((Keeps.refl NoS W1).drewN nq).cell d1 (fun f => f); have d2 := ((Keeps.refl NoS W1).drewN nq).cell d2 (fun f => f)
        generalize W1.drewN nq = W2 at *
        clear b0 b1 b2 hl mB1 hB1 KW1 H1
        have b0 := H2.out.c 0 (z := .pointer (some ⟨X, 0, none⟩)) rfl; have b1 := H2.out.c 1 (z := .slice (some ⟨pg, 0, none⟩) u.P.length pcap) rfl; have b2 := H2.out.c 2 (z := .int .i64 ((k : Int) + 1)) (by rw [← HI.out]; rfl); have hl := H2.out.lt
        go_upto_region 2 with fail
        have HS2 := Lib.hid (show ∀ w', Keeps NoS W2 w' → w'.cell? ⟨U, 1, none⟩ = some (.slice (some ⟨pg, 0, none⟩) u.P.length pcap) ∧ w'.cell? ⟨U, 2, none⟩ = some (.int .i64 ((k : Int) + 1)) ∧ w'.cell? ⟨pg, k * 3, none⟩ = some (.int .i64 kd) ∧ w'.cell? ⟨pg, k * 3 + 1, none⟩ = some (.int .i64 at_) ∧ w'.cell? ⟨pg, k * 3 + 2, none⟩ = some (.int .i64 x) from fun w' kk => ⟨kk.cell b1 (fun f => f), kk.cell b2 (fun f => f), kk.cell d0 (fun f => f), kk.cell d1 (fun f => f), kk.cell d2 (fun f => f)⟩)
        clear b0 b1 b2 hl d0 d1 d2
        refine wp_region_held_drew (S := (fun w' => w'.cell? ⟨U, 1, none⟩ = some (.slice (some ⟨pg, 0, none⟩) u.P.length pcap) ∧ w'.cell? ⟨U, 2, none⟩ = some (.int .i64 ((k : Int) + 1)) ∧ w'.cell? ⟨pg, k * 3, none⟩ = some (.int .i64 kd) ∧ w'.cell? ⟨pg, k * 3 + 1, none⟩ = some (.int .i64 at_) ∧ w'.cell? ⟨pg, k * 3 + 2, none⟩ = some (.int .i64 x))) (by kernel_rfl) ((HS2.out _ (Keeps.refl _ W2).drew)) (fun hHeld => ?_)
        refine wpAnyH_take (i := 0) (v := ?_) (by simp only [List.getElem?_toArray, List.getElem?_cons_succ, List.getElem?_cons_zero]; rfl) (by kernel_rfl) (by kernel_rfl) (by kernel_rfl) (by exact fun _ _ _ h => h) (Or.inl ⟨by rfl, ?_⟩) hHeld ?_
        rotate_left
        · intro w hSw; (try dsimp only at hSw); go_simp; (try with_reducible rfl)
        try simp only [Act.put, List.setIfInBounds_toArray, List.set_cons_zero, List.set_cons_succ, hwk]
        refine wpAnyH_take (i := 1) (v := ?_) (by simp only [List.getElem?_toArray, List.getElem?_cons_succ, List.getElem?_cons_zero]; rfl) (by kernel_rfl) (by kernel_rfl) (by kernel_rfl) (by exact fun _ _ _ h => h) (Or.inl ⟨by rfl, ?_⟩) hHeld ?_
        rotate_left
        · intro w hSw; (try dsimp only at hSw); go_simp; (try with_reducible rfl)
        try simp only [Act.put, List.setIfInBounds_toArray, List.set_cons_zero, List.set_cons_succ, hwk]
        refine wpAnyH_take (i := 2) (v := ?_) (by simp only [List.getElem?_toArray, List.getElem?_cons_succ, List.getElem?_cons_zero]; rfl) (by kernel_rfl) (by kernel_rfl) (by kernel_rfl) (by exact fun _ _ _ h => h) (Or.inl ⟨by rfl, ?_⟩) hHeld ?_
        rotate_left
        · intro w hSw; (try dsimp only at hSw); go_simp; (try with_reducible rfl)
        try simp only [Act.put, List.setIfInBounds_toArray, List.set_cons_zero, List.set_cons_succ, hwk]
        refine wpAnyH_take (i := 3) (v := ?_) (by simp only [List.getElem?_toArray, List.getElem?_cons_succ, List.getElem?_cons_zero]; rfl) (by kernel_rfl) (by kernel_rfl) (by kernel_rfl) (by exact fun _ _ _ h => h) (Or.inl ⟨by rfl, ?_⟩) hHeld ?_
        rotate_left
        · intro w hSw; (try dsimp only at hSw); go_simp; (try with_reducible rfl)
        try simp only [Act.put, List.setIfInBounds_toArray, List.set_cons_zero, List.set_cons_succ, hwk]
        refine wpAnyH_take (i := 4) (v := ?_) (by simp only [List.getElem?_toArray, List.getElem?_cons_succ, List.getElem?_cons_zero]; rfl) (by kernel_rfl) (by kernel_rfl) (by kernel_rfl) (by exact fun _ _ _ h => h) (Or.inl ⟨by rfl, ?_⟩) hHeld ?_
        rotate_left
        · intro w hSw; (try dsimp only at hSw); go_simp; (try with_reducible rfl)
        try simp only [Act.put, List.setIfInBounds_toArray, List.set_cons_zero, List.set_cons_succ, hwk]
        refine wpAnyH_take (i := 5) (v := ?_) (by simp only [List.getElem?_toArray, List.getElem?_cons_succ, List.getElem?_cons_zero]; rfl) (by kernel_rfl) (by kernel_rfl) (by kernel_rfl) (by exact fun _ _ _ h => h) (Or.inl ⟨by rfl, ?_⟩) hHeld ?_
        rotate_left
        · intro w hSw; (try dsimp only at hSw); go_simp; (try with_reducible rfl)
        try simp only [Act.put, List.setIfInBounds_toArray, List.set_cons_zero, List.set_cons_succ, hwk]
        refine wpAnyH_take (i := 6) (v := ?_) (by simp only [List.getElem?_toArray, List.getElem?_cons_succ, List.getElem?_cons_zero]; rfl) (by kernel_rfl) (by kernel_rfl) (by kernel_rfl) (by exact fun _ _ _ h => h) (Or.inl ⟨by rfl, ?_⟩) hHeld ?_
        rotate_left
        · intro w hSw; (try dsimp only at hSw); go_simp; (try with_reducible rfl)
        try simp only [Act.put, List.setIfInBounds_toArray, List.set_cons_zero, List.set_cons_succ, hwk]
        refine wpAnyH_take (i := 7) (v := ?_) (by simp only [List.getElem?_toArray, List.getElem?_cons_succ, List.getElem?_cons_zero]; rfl) (by kernel_rfl) (by kernel_rfl) (by kernel_rfl) (by exact fun _ _ _ h => h) (Or.inl ⟨by rfl, ?_⟩) hHeld ?_
        rotate_left
        · intro w hSw; (try dsimp only at hSw); go_simp; (try with_reducible rfl)
        try simp only [Act.put, List.setIfInBounds_toArray, List.set_cons_zero, List.set_cons_succ, hwk]
        refine wpAnyH_take (i := 8) (v := ?_) (by simp only [List.getElem?_toArray, List.getElem?_cons_succ, List.getElem?_cons_zero]; rfl) (by kernel_rfl) (by kernel_rfl) (by kernel_rfl) (by exact fun _ _ _ h => h) (Or.inl ⟨by rfl, ?_⟩) hHeld ?_
        rotate_left
        · intro w hSw; (try dsimp only at hSw); go_simp; (try with_reducible rfl)
        try simp only [Act.put, List.setIfInBounds_toArray, List.set_cons_zero, List.set_cons_succ, hwk]
        refine wpAnyH_take (i := 9) (v := ?_) (by simp only [List.getElem?_toArray, List.getElem?_cons_succ, List.getElem?_cons_zero]; rfl) (by kernel_rfl) (by kernel_rfl) (by kernel_rfl) (by exact fun _ _ _ h => h) (Or.inl ⟨by rfl, ?_⟩) hHeld ?_
        rotate_left
        · intro w hSw; (try dsimp only at hSw); go_simp; (try with_reducible rfl)
        try simp only [Act.put, List.setIfInBounds_toArray, List.set_cons_zero, List.set_cons_succ, hwk]
        refine wpAnyH_take (i := 10) (v := ?_) (by simp only [List.getElem?_toArray, List.getElem?_cons_succ, List.getElem?_cons_zero]; rfl) (by kernel_rfl) (by kernel_rfl) (by kernel_rfl) (by exact fun _ _ _ h => h) (Or.inl ⟨by rfl, ?_⟩) hHeld ?_
        rotate_left
        · intro w hSw; (try dsimp only at hSw); go_simp; (try with_reducible rfl)
        try simp only [Act.put, List.setIfInBounds_toArray, List.set_cons_zero, List.set_cons_succ, hwk]
        refine wpAnyH_ready (rs := [11]) (by kernel_rfl) (by simp) ?_
        refine AllReadyH.cons (by simp only [List.getElem?_toArray, List.getElem?_cons_succ, List.getElem?_cons_zero]; rfl) (fun kC hkC => ?_) AllReadyH.nil
        go_simp
        refine hkC.out _ _ ((HS2.out _ ((Keeps.refl _ W2).drew.alloc _))) (fun hHeld => ?_)
        clear hkC kC
        try simp only [Act.put, List.setIfInBounds_toArray, List.set_cons_zero, List.set_cons_succ, hwk]
        refine wpAnyH_ready (rs := [12]) (by kernel_rfl) (by simp) ?_
        refine AllReadyH.cons (by simp only [List.getElem?_toArray, List.getElem?_cons_succ, List.getElem?_cons_zero]; rfl) (fun kC hkC => ?_) AllReadyH.nil
        go_simp
        refine hkC.out _ _ ((HS2.out _ ((Keeps.refl _ W2).drew.alloc _))) (fun hHeld => ?_)
        clear hkC kC
        try simp only [Act.put, List.setIfInBounds_toArray, List.set_cons_zero, List.set_cons_succ, hwk]
        refine wpAnyH_done (by kernel_rfl) ?_ _
        have nB2 := nB
        have k3 : Keeps NoS W2 (W2.alloc (.cells #[.int .i64 kd, .int .i64 at_, .int .i64 x] 39)).drew := ((Keeps.refl NoS W2).alloc _).drew
        have H3 := Lib.hid (H2.out.no k3)
        have KW3 := KW2.out.trans k3.no
        have mB3 := mB2.keep k3 (fun f => f)
        have HB3 := Lib.hid (Nat.lt_of_lt_of_le hB2 k3.size)
        have nO : ¬ ruO a v X ra wa rv wv vv U rdv W2.heap.size := fun e => by have := H2.out.lo e; omega
        have o0 : (W2.alloc (.cells #[.int .i64 kd, .int .i64 at_, .int .i64 x] 39)).drew.cell? ⟨W2.heap.size, 0, none⟩ = some (.int .i64 kd) := (Keeps.refl NoS (W2.alloc (.cells #[.int .i64 kd, .int .i64 at_, .int .i64 x] 39))).drew.cell (by rw [blk_cell (heap_alloc_new _ _)]; rfl) (fun f => f)
        have o1 : (W2.alloc (.cells #[.int .i64 kd, .int .i64 at_, .int .i64 x] 39)).drew.cell? ⟨W2.heap.size, 1, none⟩ = some (.int .i64 at_) := (Keeps.refl NoS (W2.alloc (.cells #[.int .i64 kd, .int .i64 at_, .int .i64 x] 39))).drew.cell (by rw [blk_cell (heap_alloc_new _ _)]; rfl) (fun f => f)
        have o2 : (W2.alloc (.cells #[.int .i64 kd, .int .i64 at_, .int .i64 x] 39)).drew.cell? ⟨W2.heap.size, 2, none⟩ = some (.int .i64 x) := (Keeps.refl NoS (W2.alloc (.cells #[.int .i64 kd, .int .i64 at_, .int .i64 x] 39))).drew.cell (by rw [blk_cell (heap_alloc_new _ _)]; rfl) (fun f => f)
        obtain ⟨O, hO⟩ : ∃ O, W2.heap.size = O := ⟨_, rfl⟩
        clear hB2 mB2 KW2 HS2
        rw [hO] at nO o0 o1 o2
        go_upto_region 3 with fail
        (try rw [hO])
        generalize (W2.alloc (.cells #[.int .i64 kd, .int .i64 at_, .int .i64 x] 39)).drew = W3 at *
        have HS := Lib.hid (show ∀ (w' : World) (rv' wv' vv' rdv' : Value) (M' : MemS) (t' : TxS), NR w' a v M' X ra wa rv' wv' vv' t' U (.slice (some ⟨pg, 0, none⟩) u.P.length pcap) rdv' u → Keeps (ruO a v X ra wa rv wv vv U rdv) W3 w' → w'.cell? ⟨U, 0, none⟩ = some (.pointer (some ⟨X, 0, none⟩)) ∧ w'.cell? ⟨B, 0, none⟩ = some (.int .i64 3) ∧ w'.cell? ⟨B, 1, none⟩ = some (.int .i64 1) ∧ w'.cell? ⟨B, 2, none⟩ = some (.int .i64 3) ∧ w'.cell? ⟨B, 3, none⟩ = some (.int .i64 0) ∧ w'.cell? ⟨B, 4, none⟩ = some (.int .i64 4) ∧ w'.cell? ⟨O, 0, none⟩ = some (.int .i64 kd) ∧ w'.cell? ⟨O, 1, none⟩ = some (.int .i64 at_) ∧ w'.cell? ⟨O, 2, none⟩ = some (.int .i64 x) from fun w' rv' wv' vv' rdv' M' t' Z kk =>
          ⟨by rw [blk_cell Z.hd]; rfl, kk.cell mB3.1 nB, kk.cell mB3.2.1 nB, kk.cell mB3.2.2.1 nB, kk.cell mB3.2.2.2.1 nB, kk.cell mB3.2.2.2.2 nB, kk.cell o0 nO, kk.cell o1 nO, kk.cell o2 nO⟩)
        clear o0 o1 o2
        refine wp_region_held_drew (S := (fun w' => w'.cell? ⟨U, 0, none⟩ = some (.pointer (some ⟨X, 0, none⟩)) ∧ w'.cell? ⟨B, 0, none⟩ = some (.int .i64 3) ∧ w'.cell? ⟨B, 1, none⟩ = some (.int .i64 1) ∧ w'.cell? ⟨B, 2, none⟩ = some (.int .i64 3) ∧ w'.cell? ⟨B, 3, none⟩ = some (.int .i64 0) ∧ w'.cell? ⟨B, 4, none⟩ = some (.int .i64 4) ∧ w'.cell? ⟨O, 0, none⟩ = some (.int .i64 kd) ∧ w'.cell? ⟨O, 1, none⟩ = some (.int .i64 at_) ∧ w'.cell? ⟨O, 2, none⟩ = some (.int .i64 x))) (by kernel_rfl) ((HS.out _ _ _ _ _ _ _ (H3.out.no (Keeps.refl NoS W3).drew) (Keeps.refl _ W3).drew)) (fun hHeld => ?_)
        refine wpAnyH_take (i := 0) (v := ?_) (by simp only [List.getElem?_toArray, List.getElem?_cons_succ, List.getElem?_cons_zero]; rfl) (by kernel_rfl) (by kernel_rfl) (by kernel_rfl) (by exact fun _ _ _ h => h) (Or.inl ⟨by rfl, ?_⟩) hHeld ?_
        rotate_left
        · intro w hSw; (try dsimp only at hSw); go_simp; (try with_reducible rfl)
        try simp only [Act.put, List.setIfInBounds_toArray, List.set_cons_zero, List.set_cons_succ]
        refine wpAnyH_take (i := 1) (v := ?_) (by simp only [List.getElem?_toArray, List.getElem?_cons_succ, List.getElem?_cons_zero]; rfl) (by kernel_rfl) (by kernel_rfl) (by kernel_rfl) (by exact fun _ _ _ h => h) (Or.inl ⟨by rfl, ?_⟩) hHeld ?_
        rotate_left
        · intro w hSw; (try dsimp only at hSw); go_simp; (try with_reducible rfl)
        try simp only [Act.put, List.setIfInBounds_toArray, List.set_cons_zero, List.set_cons_succ]
        refine wpAnyH_take (i := 2) (v := ?_) (by simp only [List.getElem?_toArray, List.getElem?_cons_succ, List.getElem?_cons_zero]; rfl) (by kernel_rfl) (by kernel_rfl) (by kernel_rfl) (by exact fun _ _ _ h => h) (Or.inl ⟨by rfl, ?_⟩) hHeld ?_
        rotate_left
        · intro w hSw; (try dsimp only at hSw); go_simp; (try with_reducible rfl)
        try simp only [Act.put, List.setIfInBounds_toArray, List.set_cons_zero, List.set_cons_succ]
        refine wpAnyH_take (i := 3) (v := ?_) (by simp only [List.getElem?_toArray, List.getElem?_cons_succ, List.getElem?_cons_zero]; rfl) (by kernel_rfl) (by kernel_rfl) (by kernel_rfl) (by exact fun _ _ _ h => h) (Or.inl ⟨by rfl, ?_⟩) hHeld ?_
        rotate_left
        · intro w hSw; (try dsimp only at hSw); go_simp; (try with_reducible rfl)
        try simp only [Act.put, List.setIfInBounds_toArray, List.set_cons_zero, List.set_cons_succ]
        refine wpAnyH_take (i := 4) (v := ?_) (by simp only [List.getElem?_toArray, List.getElem?_cons_succ, List.getElem?_cons_zero]; rfl) (by kernel_rfl) (by kernel_rfl) (by kernel_rfl) (by exact fun _ _ _ h => h) (Or.inl ⟨by rfl, ?_⟩) hHeld ?_
        rotate_left
        · intro w hSw; (try dsimp only at hSw); go_simp; (try with_reducible rfl)
        try simp only [Act.put, List.setIfInBounds_toArray, List.set_cons_zero, List.set_cons_succ]
        refine wpAnyH_take (i := 5) (v := ?_) (by simp only [List.getElem?_toArray, List.getElem?_cons_succ, List.getElem?_cons_zero]; rfl) (by kernel_rfl) (by kernel_rfl) (by kernel_rfl) (by exact fun _ _ _ h => h) (Or.inl ⟨by rfl, ?_⟩) hHeld ?_
        rotate_left
        · intro w hSw; (try dsimp only at hSw); go_simp; (try with_reducible rfl)
        try simp only [Act.put, List.setIfInBounds_toArray, List.set_cons_zero, List.set_cons_succ]
        refine wpAnyH_take (i := 6) (v := ?_) (by simp only [List.getElem?_toArray, List.getElem?_cons_succ, List.getElem?_cons_zero]; rfl) (by kernel_rfl) (by kernel_rfl) (by kernel_rfl) (by exact fun _ _ _ h => h) (Or.inl ⟨by rfl, ?_⟩) hHeld ?_
        rotate_left
        · intro w hSw; (try dsimp only at hSw); go_simp; (try with_reducible rfl)
        try simp only [Act.put, List.setIfInBounds_toArray, List.set_cons_zero, List.set_cons_succ]
        refine wpAnyH_take (i := 8) (v := ?_) (by simp only [List.getElem?_toArray, List.getElem?_cons_succ, List.getElem?_cons_zero]; rfl) (by kernel_rfl) (by kernel_rfl) (by kernel_rfl) (by exact fun _ _ _ h => h) (Or.inl ⟨by rfl, ?_⟩) hHeld ?_
        rotate_left
        · intro w hSw; (try dsimp only at hSw); go_simp; (try with_reducible rfl)
        try simp only [Act.put, List.setIfInBounds_toArray, List.set_cons_zero, List.set_cons_succ]
        refine wpAnyH_take (i := 9) (v := ?_) (by simp only [List.getElem?_toArray, List.getElem?_cons_succ, List.getElem?_cons_zero]; rfl) (by kernel_rfl) (by kernel_rfl) (by kernel_rfl) (by exact fun _ _ _ h => h) (Or.inl ⟨by rfl, ?_⟩) hHeld ?_
        rotate_left
        · intro w hSw; (try dsimp only at hSw); go_simp; (try with_reducible rfl)
        try simp only [Act.put, List.setIfInBounds_toArray, List.set_cons_zero, List.set_cons_succ]
        refine wpAnyH_ready (rs := [7]) (by kernel_rfl) (by simp) ?_
        refine AllReadyH.cons (by simp only [List.getElem?_toArray, List.getElem?_cons_succ, List.getElem?_cons_zero]; rfl) (fun kC hkC => ?_) AllReadyH.nil
        go_simp
        refine (dataAt_lit 3 1 3 0 4 at_ (dA at_) rfl _).mono ?_; rintro e w4 ⟨rfl, hk4⟩; have kd4 := (Keeps.refl NoS W3).drew.trans hk4; have H4 := Lib.hid (H3.out.no kd4)
        (try go_wp2_with fail)
        refine hkC.out _ _ ((HS.out _ _ _ _ _ _ _ H4.out kd4.no)) (fun hHeld => ?_)
        clear hkC kC
        try simp only [Act.put, List.setIfInBounds_toArray, List.set_cons_zero, List.set_cons_succ]
        refine wpAnyH_ready (rs := [10]) (by kernel_rfl) (by simp) ?_
        refine AllReadyH.cons (by simp only [List.getElem?_toArray, List.getElem?_cons_succ, List.getElem?_cons_zero]; rfl) (fun kC hkC => ?_) AllReadyH.nil
        go_simp
        refine (rvalue_any H4.out kd at_ x hr).mono ?_; rintro e w5 ⟨rfl, hk5⟩; have kd5 := kd4.trans hk5; have H5 := Lib.hid (H3.out.no kd5); have mB1 := mB3.keep kd5 (fun f => f); have hB1 := Nat.lt_of_lt_of_le HB3.out kd5.size; have KW1 := KW3.trans kd5.no
        (try go_wp2_with fail)
        refine hkC.out _ _ ((HS.out _ _ _ _ _ _ _ H5.out kd5.no)) (fun hHeld => ?_)
        clear hkC kC
        try simp only [Act.put, List.setIfInBounds_toArray, List.set_cons_zero, List.set_cons_succ]
        refine wpAnyH_ready (rs := [11]) (by kernel_rfl) (by simp) ?_
        refine AllReadyH.cons (by simp only [List.getElem?_toArray, List.getElem?_cons_succ, List.getElem?_cons_zero]; rfl) (fun kC hkC => ?_) AllReadyH.nil
        go_simp
        refine (xWrite_any H5.out.nx (dA at_) (valU u.rd at_ x) hsm).mono ?_; rw [HQ.out]; rintro e w2 ⟨rfl, hT⟩; obtain ⟨rv1, wv1, vv1, rdv1, hN, hk1', hg1'⟩ := H5.out.tx hT
        (try go_wp2_with fail)
        refine hkC.out _ _ ((HS.out _ _ _ _ _ _ _ hN (kd5.no.trans hk1'))) (fun hHeld => ?_)
        clear hkC kC
        try simp only [Act.put, List.setIfInBounds_toArray, List.set_cons_zero, List.set_cons_succ]
        refine wpAnyH_take (i := 12) (v := ?_) (by simp only [List.getElem?_toArray, List.getElem?_cons_succ, List.getElem?_cons_zero]; rfl) (by kernel_rfl) (by kernel_rfl) (by kernel_rfl) (by exact fun _ _ _ h => h) (Or.inl ⟨by rfl, ?_⟩) hHeld ?_
        rotate_left
        · intro w hSw; (try dsimp only at hSw); go_simp; (try with_reducible rfl)
        try simp only [Act.put, List.setIfInBounds_toArray, List.set_cons_zero, List.set_cons_succ]
        refine wpAnyH_done (by kernel_rfl) ?_ _
        clear mB3
        have mB2 := mB1.keep hk1' nB
        have nB2 := out_then hg1' nB hB1
        have hk1 := KW1.trans hk1'
        have hg1 : ∀ g, ruO a v X ra wa rv1 wv1 vv1 U rdv1 g → ruO a v X ra wa rv wv vv U rdv g ∨ w.heap.size ≤ g := fun g e => (hg1' g e).imp id (fun z => Nat.le_trans KW1.size z)
        clear hk1' hg1' nB mB1 hB1
        have hcr := (show cc = 0 ∨ cc = 1 ∨ cc = 2 from by have := writeT_c t (dA at_) (valU u.rd at_ x); rw [HQ.out] at this; exact this)
        rcases hcr with hcc | hcc | hcc
        · subst hcc
          have HQU := Lib.hid (show askU t u = (tt, { u with busy := true }) by unfold askU tailU; rw [HC.out]; rfl)
          clear HC
          have b3 := hN.c 3 (z := .bool u.busy) rfl; have f3 := hN.f 3; have hl := hN.lt
          go_upto_region 11 with fail
          have h3 := hN.set 3 (.bool true) (u' := { u with busy := true }) rfl rfl rfl
          have k3 := keepsU w2 a v X ra wa rv1 wv1 vv1 U rdv1 3 (.bool true)
          have mB3 := mB2.keep k3 nB2
          generalize w2.setCell ⟨U, 3, none⟩ (.bool true) = w3 at *
          clear b3 f3 hl
          clear mB2 mB3
          go_wp2_with fail
          (first | go_end0 | ((try simp only [Exit.inBlock, Exit.then]); refine bodyPost_ret (results_none rfl _ _ _) rfl ?_))
          rw [HQU.out]
          exact ⟨rfl, NRP.then hk1 hg1 (h3.kz k3)⟩
        · subst hcc
          have HQU := Lib.hid (show askU t u = (tt, doneU { u with busy := false } tt.value) by unfold askU tailU; rw [HC.out]; rfl)
          clear HC
          have b3 := hN.c 3 (z := .bool u.busy) rfl; have f3 := hN.f 3; have hl := hN.lt
          go_upto_region 11 with fail
          have h3 := hN.set 3 (.bool false) (u' := { u with busy := false }) rfl rfl rfl
          have k3 := keepsU w2 a v X ra wa rv1 wv1 vv1 U rdv1 3 (.bool false)
          have mB3 := mB2.keep k3 nB2
          generalize w2.setCell ⟨U, 3, none⟩ (.bool false) = w3 at *
          clear b3 f3 hl
          obtain ⟨m0, m1, m2, m3, m4⟩ := mB3
          clear mB2
          go_wp2_with (go_at_call 39; refine (rdone_any h3 h0 hP hr 3 1 3 0 4).mono ?_; rintro e w4 ⟨rfl, hdn⟩)
          (first | go_end0 | ((try simp only [Exit.inBlock, Exit.then]); refine bodyPost_ret (results_none rfl _ _ _) rfl ?_))
          rw [HQU.out]
          exact ⟨rfl, NRP.then hk1 hg1 (NRP.then k3 (fun g e => .inl e) hdn)⟩
        · subst hcc
          have HQU := Lib.hid (show askU t u = (tt, { u with busy := false, fin := 2 }) by unfold askU tailU; rw [HC.out]; rfl)
          clear HC
          have b3 := hN.c 3 (z := .bool u.busy) rfl; have f3 := hN.f 3; have hl := hN.lt
          go_upto_region 11 with fail
          have h3 := hN.set 3 (.bool false) (u' := { u with busy := false }) rfl rfl rfl
          have k3 := keepsU w2 a v X ra wa rv1 wv1 vv1 U rdv1 3 (.bool false)
          have mB3 := mB2.keep k3 nB2
          generalize w2.setCell ⟨U, 3, none⟩ (.bool false) = w3 at *
          clear b3 f3 hl
          clear mB2 mB3
          have b4 := h3.c 4 (z := .int .i64 u.fin) rfl; have f4 := h3.f 4; have hl := h3.lt
          go_wp2_with fail
          (first | go_end0 | ((try simp only [Exit.inBlock, Exit.then]); refine bodyPost_ret (results_none rfl _ _ _) rfl ?_))
          rw [HQU.out]
          exact ⟨rfl, NRP.then hk1 hg1 ((h3.set 4 (.int .i64 2) (u' := { u with busy := false, fin := 2 }) rfl rfl rfl).kz (k3.trans (keepsU _ a v X ra wa rv1 wv1 vv1 U rdv1 4 (.int .i64 2))))⟩


end Go.Proofs.Ytfmamedkiaimpaa
namespace Go.Proofs.Ytfmamedkiaimpaa
open Go.RowKit
structure TI (t : TxS) : Prop where
  v : t.V.length < 1000
  w : t.W.length ≤ 32
  jb : t.job = 0 ∨ t.job = 1 ∨ t.job = 2 ∨ t.job = 3 ∨ t.job = 4 ∨ t.job = 5
  ok : t.job = 0 ∨ t.job = 5 ∨ (t.job ≠ 0 ∧ t.job ≠ 5 ∧ seekOk t) ∨ (t.part < 8 ∧ t.job = 1) ∨ (t.job = 2 ∧ lookOk t) ∨ (t.job = 4 ∧ commitOk t)
theorem TI.step {t : TxS} (h : TI t) : StepOk t := ⟨Nat.lt_trans h.v (by decide), h.ok⟩
theorem TI.small {t : TxS} (h : TI t) : t.W.length < 4096 := by have := h.w; omega
theorem TI.new (th : Int) : TI (tx0 th) := ⟨(by decide : (0 : Nat) < 1000), (by decide : (0 : Nat) ≤ 32), .inl rfl, .inl rfl⟩
theorem TI.idle {t : TxS} (hv : t.V.length < 1000) (hw : t.W.length ≤ 32) (hj : t.job = 0) : TI t := ⟨hv, hw, .inl hj, .inl hj⟩
theorem TI.undo {t : TxS} (hv : t.V.length < 1000) (hw : t.W.length ≤ 32) (hj : t.job = 5) : TI t := ⟨hv, hw, .inr (.inr (.inr (.inr (.inr hj)))), .inr (.inl hj)⟩
theorem TI.undone {t : TxS} (hv : t.V.length < 1000) (hw : t.W.length ≤ 32) (hj : t.job = 5) : TI (undoneT t).1 := by
  unfold undoneT
  split
  · exact .undo hv hw hj
  · exact .idle hv hw rfl
theorem TI.abort {t : TxS} (hv : t.V.length < 1000) (hw : t.W.length ≤ 32) (c : Int) : TI (abortT t c).1 := TI.undone hv hw rfl
theorem TI.mayTake {t : TxS} (hv : t.V.length < 1000) (hw : t.W.length ≤ 32) (hj : t.job = 4) (hp : t.part = 4) : TI (mayTakeT t).1 := by
  unfold mayTakeT
  split
  · exact .abort hv hw 5
  · exact ⟨hv, hw, .inr (.inr (.inr (.inr (.inl hj)))), .inr (.inr (.inr (.inr (.inr ⟨hj, .inr (.inl hp)⟩))))⟩
theorem TI.found {t : TxS} (hv : t.V.length < 1000) (hw : t.W.length ≤ 32) (hj : t.job = 1 ∨ t.job = 2 ∨ t.job = 3 ∨ t.job = 4) : TI (foundT t).1 := by
  unfold foundT
  split
  · exact .idle hv hw rfl
  · split
    · exact TI.mayTake hv hw (by assumption) rfl
    · rename_i h3 h4
      rcases hj with h | h | h | h
      · exact ⟨hv, hw, .inr (.inl h), .inr (.inr (.inr (.inl ⟨by show (0 : Int) < 8; decide, h⟩)))⟩
      · exact ⟨hv, hw, .inr (.inr (.inl h)), .inr (.inr (.inr (.inr (.inl ⟨h, .inl rfl⟩))))⟩
      · exact absurd h h3
      · exact absurd h h4
theorem TI.settle {t : TxS} (hv : t.V.length < 1000) (hw : t.W.length ≤ 32) (hj : t.job = 4) (hi : 0 ≤ t.i) (hp : t.part = 2 ∨ t.part = 5 ∨ t.part = 7) : TI (settleT t) := by
  have J : ∀ {p : Prop}, p ∨ p ∨ p ∨ p ∨ t.job = 4 ∨ p := .inr (.inr (.inr (.inr (.inl hj))))
  have mk : ∀ t' : TxS, t'.V = t.V → t'.W = t.W → t'.job = t.job → commitOk t' → TI t' := fun t' e1 e2 e3 hc => ⟨by rw [e1]; exact hv, by rw [e2]; exact hw, by rw [e3]; exact .inr (.inr (.inr (.inr (.inl hj)))), .inr (.inr (.inr (.inr (.inr ⟨by rw [e3]; exact hj, hc⟩))))⟩
  have mk67 : ∀ (b : Bool) (t' : TxS), t'.part = (if b then 6 else 7) → commitOk t' := fun b t' e => by
    cases b
    · exact .inr (.inr (.inr (.inr (.inr e))))
    · exact .inr (.inr (.inr (.inr (.inl e))))
  unfold settleT
  split
  · split
    · rename_i h2 h; exact mk _ rfl rfl rfl (.inr (.inr (.inl ⟨h2, hi, h⟩)))
    · split
      · rename_i h; exact mk _ rfl rfl rfl (.inr (.inr (.inr (.inl ⟨rfl, by show (0 : Int) ≤ 0; decide, h⟩))))
      · exact mk _ rfl rfl rfl (mk67 t.took _ rfl)
  · split
    · split
      · rename_i h5 h; exact mk _ rfl rfl rfl (.inr (.inr (.inr (.inl ⟨h5, hi, h⟩))))
      · exact mk _ rfl rfl rfl (mk67 t.took _ rfl)
    · rename_i h2 h5
      rcases hp with h | h | h
      · exact absurd h h2
      · exact absurd h h5
      · exact mk _ rfl rfl rfl (.inr (.inr (.inr (.inr (.inr h)))))
theorem TI.lookEnd {t : TxS} (hv : t.V.length < 1000) (hw : t.W.length ≤ 32) (hj : t.job = 2) (hi : 0 ≤ t.i) (hp : t.part = 2) : TI (lookEnd t).1 := by
  unfold Proofs.Ytfmamedkiaimpaa.lookEnd
  split
  · rename_i h; exact ⟨hv, hw, .inr (.inr (.inl hj)), .inr (.inr (.inr (.inr (.inl ⟨hj, .inr (.inr ⟨hp, hi, h⟩)⟩))))⟩
  · exact .idle hv hw rfl
theorem TI.seek {t : TxS} (hv : t.V.length < 1000) (hw : t.W.length ≤ 32) (hj : t.job = 1 ∨ t.job = 2 ∨ t.job = 3 ∨ t.job = 4) (hs : seekOk t) : TI t :=
  ⟨hv, hw, by omega, .inr (.inr (.inl ⟨by omega, by omega, hs⟩))⟩
theorem TI.seekEnd {t : TxS} (hv : t.V.length < 1000) (hw : t.W.length ≤ 32) (hj : t.job = 1 ∨ t.job = 2 ∨ t.job = 3 ∨ t.job = 4) (hi : 0 ≤ t.i) (hp : t.part = 9 ∨ t.part = 11) : TI (seekEnd t).1 := by
  unfold Proofs.Ytfmamedkiaimpaa.seekEnd
  split
  · split
    · exact .seek hv hw hj (.inr (.inr (.inl rfl)))
    · rename_i h9 h; exact .seek hv hw hj (.inr (.inl ⟨h9, hi, (by omega : t.i < (t.R.length : Int))⟩))
  · split
    · rename_i h9 h
      have h11 : t.part = 11 := hp.resolve_left h9
      exact .seek hv hw hj (.inr (.inr (.inr ⟨h11, hi, h⟩)))
    · exact .found hv hw hj
theorem TI.seeks {t : TxS} (h : TI t) (M : MemS) (hj : t.job = 1 ∨ t.job = 2 ∨ t.job = 3 ∨ t.job = 4) (hs : seekOk t) : TI (seeksT M t).2.1 := by
  unfold seeksT
  split
  · rename_i h8
    dsimp only
    split
    · exact .seek h.v h.w hj (.inl h8)
    · exact TI.seekEnd (t := { t with now := M.atP 1, part := 9, i := 0 }) h.v h.w hj (by show (0 : Int) ≤ 0; decide) (.inl rfl)
  · split
    · rename_i h8 h9
      dsimp only
      have hi : 0 ≤ t.i := by rcases hs with e | ⟨_, e, _⟩ | e | ⟨e, _⟩ <;> omega
      split
      · exact TI.seekEnd (t := { t with i := t.i + 1 }) h.v h.w hj (by show (0 : Int) ≤ t.i + 1; omega) (.inl h9)
      · exact .abort h.v h.w 2
    · split
      · dsimp only
        split
        · exact TI.seekEnd (t := { t with part := 11, i := 0 }) h.v h.w hj (by show (0 : Int) ≤ 0; decide) (.inr rfl)
        · exact .seek h.v h.w hj (.inl rfl)
      · rename_i h8 h9 h10
        have h11 : t.part = 11 := by rcases hs with e | ⟨e, _⟩ | e | ⟨e, _⟩ <;> omega
        dsimp only
        by_cases hc : (watchesT M t t.i.toNat).2.2 = true
        · rw [if_pos hc]; exact TI.seekEnd (t := { t with i := (t.i.toNat : Int) + 1 }) h.v h.w hj (by show (0 : Int) ≤ (t.i.toNat : Int) + 1; omega) (.inr h11)
        · rw [if_neg hc]; exact TI.abort (t := { t with i := (t.i.toNat : Int) + 1 }) h.v h.w 3
theorem TI.look {t : TxS} (h : TI t) (M : MemS) (hj : t.job = 2) (hs : lookOk t) : TI (lookT M t).2.1 := by
  unfold lookT
  split
  · exact ⟨h.v, h.w, .inr (.inr (.inl hj)), .inr (.inr (.inr (.inr (.inl ⟨hj, .inr (.inl rfl)⟩))))⟩
  · split
    · dsimp only
      split
      · exact TI.lookEnd (t := { t with part := 2, i := 0 }) h.v h.w hj (by show (0 : Int) ≤ 0; decide) rfl
      · exact .seek h.v h.w (.inr (.inl hj)) (.inl rfl)
    · rename_i h0 h1
      have h2 : t.part = 2 := by rcases hs with e | e | ⟨e, _⟩ <;> omega
      dsimp only
      by_cases hc : (watchesT M t t.i.toNat).2.2 = true
      · rw [if_pos hc]; exact TI.lookEnd (t := { t with i := (t.i.toNat : Int) + 1 }) h.v h.w hj (by show (0 : Int) ≤ (t.i.toNat : Int) + 1; omega) h2
      · rw [if_neg hc]; exact TI.abort (t := { t with i := (t.i.toNat : Int) + 1 }) h.v h.w 3
theorem TI.commit {t : TxS} (h : TI t) (M : MemS) (hj : t.job = 4) (hs : commitOk t) : TI (commitT M t).2.1 := by
  unfold commitT
  split
  · dsimp only
    split
    · exact TI.mayTake (t := { t with phased := true, part := 4 }) h.v h.w hj rfl
    · exact TI.settle (t := { t with phased := true, part := 2, i := 0 }) h.v h.w hj (by show (0 : Int) ≤ 0; decide) (.inl rfl)
  · split
    · dsimp only
      split
      · exact TI.settle (t := { t with took := true, made := wrap64 (t.stamp + 2), part := 2, i := 0 }) h.v h.w hj (by show (0 : Int) ≤ 0; decide) (.inl rfl)
      · exact .seek h.v h.w (.inr (.inr (.inr hj))) (.inl rfl)
    · split
      · rename_i h2
        dsimp only
        by_cases hc : (watchesT M t t.i.toNat).2.2 = true
        · rw [if_pos hc]; exact TI.settle (t := { t with i := (t.i.toNat : Int) + 1 }) h.v h.w hj (by show (0 : Int) ≤ (t.i.toNat : Int) + 1; omega) (.inl h2)
        · rw [if_neg hc]; exact TI.abort (t := { t with i := (t.i.toNat : Int) + 1 }) h.v h.w 3
      · split
        · rename_i h3 h4 h2 h5
          have hi : 0 ≤ t.i := by rcases hs with e | e | ⟨e, _⟩ | ⟨_, e, _⟩ | e | e <;> omega
          exact TI.settle (t := { t with i := t.i + 1 }) h.v h.w hj (by show (0 : Int) ≤ t.i + 1; omega) (.inr (.inl h5))
        · split
          · rename_i h3 h4 h2 h5 h6
            unfold settleT
            exact ⟨h.v, h.w, .inr (.inr (.inr (.inr (.inl hj)))), .inr (.inr (.inr (.inr (.inr ⟨hj, .inr (.inr (.inr (.inr (.inr rfl))))⟩))))⟩
          · dsimp only
            split
            · exact .idle h.v h.w rfl
            · exact .idle h.v h.w rfl
theorem TI.stepX {t : TxS} (h : TI t) (M : MemS) : TI (stepX M t).2.1 := by
  unfold Proofs.Ytfmamedkiaimpaa.stepX
  split
  · exact h
  · split
    · rename_i h0 h5
      unfold undoT
      split
      · exact TI.undone (t := { t with took := false }) h.v h.w h5
      · exact TI.undone (t := { t with phased := false }) h.v h.w h5
    · rename_i h0 h5
      split
      · rename_i h8
        refine h.seeks M (by have := h.jb; omega) ?_
        rcases h.ok with e | e | ⟨_, _, e⟩ | ⟨e, _⟩ | ⟨_, e⟩ | ⟨_, e⟩
        · exact absurd e h0
        · exact absurd e h5
        · exact e
        · omega
        · rcases e with e | e | ⟨e, _⟩ <;> omega
        · rcases e with e | e | ⟨e, _⟩ | ⟨e, _⟩ | e | e <;> omega
      · rename_i h8
        have nos : ¬ seekOk t := by rintro (e | ⟨e, _⟩ | e | ⟨e, _⟩) <;> omega
        split
        · rename_i h1
          dsimp only
          split
          · exact h
          · exact .idle h.v h.w rfl
        · split
          · rename_i h1 h2
            refine h.look M h2 ?_
            rcases h.ok with e | e | ⟨_, _, e⟩ | ⟨_, e⟩ | ⟨_, e⟩ | ⟨e, _⟩
            · exact absurd e h0
            · exact absurd e h5
            · exact absurd e nos
            · exact absurd e h1
            · exact e
            · omega
          · rename_i h1 h2
            rcases h.ok with e | e | ⟨_, _, e⟩ | ⟨_, e⟩ | ⟨e, _⟩ | ⟨e, e2⟩
            · exact absurd e h0
            · exact absurd e h5
            · exact absurd e nos
            · exact absurd e h1
            · exact absurd e h2
            · exact h.commit M e e2
theorem putW32 (l : List (Int × Int)) (k x : Int) (h : l.length ≤ 32) : (putW 32 l k x).length ≤ 32 := by
  unfold putW
  split
  · exact h
  · split
    · simpa using h
    · split
      · simp; omega
      · exact h
theorem TI.begin {t : TxS} (h : TI t) : TI (beginT t).1 := by
  unfold beginT
  split
  · exact ⟨(by decide : (0 : Nat) < 1000), (by decide : (0 : Nat) ≤ 32), .inr (.inl rfl), .inr (.inr (.inr (.inl ⟨by show (0 : Int) < 8; decide, rfl⟩)))⟩
  · exact h
theorem TI.commitAsk {t : TxS} (h : TI t) : TI (commitAsk t).1 := by
  unfold Proofs.Ytfmamedkiaimpaa.commitAsk
  split
  · exact ⟨h.v, h.w, .inr (.inr (.inr (.inr (.inl rfl)))), .inr (.inr (.inr (.inr (.inr ⟨rfl, .inl rfl⟩))))⟩
  · exact h
theorem TI.read {t : TxS} (h : TI t) (p : Int) : TI (readT t p).1 := by
  unfold readT
  split
  · rename_i hj
    have hj : t.job = 0 := by simp at hj; exact hj.2
    split
    · exact .idle h.v h.w hj
    · split
      · exact TI.abort (t := { t with pl := p }) h.v h.w 4
      · exact ⟨h.v, h.w, .inr (.inr (.inl rfl)), .inr (.inr (.inr (.inr (.inl ⟨rfl, .inl rfl⟩))))⟩
  · exact h
theorem TI.write {t : TxS} (h : TI t) (p x : Int) : TI (writeT t p x).1 := by
  unfold writeT
  split
  · rename_i hj
    have hj : t.job = 0 := by simp at hj; exact hj.2
    split
    · exact .abort h.v h.w 4
    · split
      · exact .idle h.v (putW32 _ _ _ h.w) hj
      · exact TI.abort (t := { t with W := putW 32 t.W p x }) h.v (putW32 _ _ _ h.w) 4
  · exact h
theorem TI.kill {t : TxS} (h : TI t) (c : Int) : TI (killT t c).1 := by
  unfold killT
  split
  · exact .abort h.v h.w c
  · exact h
theorem TI.watch {t : TxS} (h : TI t) (p x : Int) (hv : t.V = []) (hj : t.job ≠ 2 ∨ True) (hjb : t.job = 0 ∨ t.job = 1) : TI (watchT t p x) := by
  unfold watchT
  split
  · refine ⟨by simp [hv], h.w, h.jb, ?_⟩
    rcases h.ok with e | e | ⟨e1, e2, e⟩ | e | ⟨e, _⟩ | ⟨e, _⟩
    · exact .inl e
    · exact .inr (.inl e)
    · refine .inr (.inr (.inl ⟨e1, e2, ?_⟩))
      rcases e with e | e | e | ⟨_, _, e⟩
      · exact .inl e
      · exact .inr (.inl e)
      · exact .inr (.inr (.inl e))
      · rw [hv] at e; simp at e; omega
    · exact .inr (.inr (.inr (.inl e)))
    · omega
    · omega
  · exact h
theorem TI.askR {t : TxS} (h : TI t) (u : RunM) : TI (askR t u).1 := by
  unfold Proofs.Ytfmamedkiaimpaa.askR
  split
  · exact h.begin
  · split
    · exact h.commitAsk
    · split
      · exact h.read _
      · exact h.write _ _
structure RI (u : RunM) : Prop where
  i0 : 0 ≤ u.i
  i1 : u.i ≤ (u.P.length : Int) + 1
  p : u.P.length ≤ 1000
  r : (u.rd.length : Int) ≤ u.i
theorem RI.pl {u : RunM} (h : RI u) : u.P.length < 1000000 := by have := h.p; omega
theorem RI.rl {u : RunM} (h : RI u) : u.rd.length < 1000000 := by have := h.p; have := h.r; have := h.i1; omega
theorem RI.done {u : RunM} (h : RI u) (x : Int) : RI (doneU u x) := by
  have := h.i0; have := h.i1; have := h.p; have := h.r
  unfold doneU
  split
  · exact ⟨h.i0, h.i1, h.p, h.r⟩
  · split
    · exact ⟨by show (0 : Int) ≤ u.i + 1; omega, by show u.i + 1 ≤ (u.P.length : Int) + 1; omega, h.p, by show ((u.rd ++ [_]).length : Int) ≤ u.i + 1; simp; omega⟩
    · exact ⟨by show (0 : Int) ≤ u.i + 1; omega, by show u.i + 1 ≤ (u.P.length : Int) + 1; omega, h.p, by show (u.rd.length : Int) ≤ u.i + 1; omega⟩
theorem TI.tail {t : TxS} (h : TI t) (u : RunM) (c : Int) : TI (tailU t u c).1 := by
  unfold tailU
  split
  · exact h
  · split
    · exact h
    · exact h
theorem RI.tail {u : RunM} (h : RI u) (t : TxS) (c : Int) : RI (tailU t u c).2 := by
  unfold tailU
  split
  · exact RI.done (u := { u with busy := false }) ⟨h.i0, h.i1, h.p, h.r⟩ _
  · split
    · exact ⟨h.i0, h.i1, h.p, h.r⟩
    · exact ⟨h.i0, h.i1, h.p, h.r⟩
theorem TI.ask {t : TxS} (h : TI t) (u : RunM) : TI (askU t u).1 := (h.askR u).tail u _
theorem RI.ask {u : RunM} (h : RI u) (t : TxS) : RI (askU t u).2 := h.tail _ _
theorem done_P (u : RunM) (x : Int) : (doneU u x).P = u.P := by
  unfold doneU
  split
  · rfl
  · split <;> rfl
theorem ask_P (t : TxS) (u : RunM) : (askU t u).2.P = u.P := by
  unfold askU tailU
  split
  · exact done_P _ _
  · split <;> rfl
/-- behind an ask: busy, or at an end, or one further -/
theorem ask_on (t : TxS) (u : RunM) (hi : u.i ≤ (u.P.length : Int) + 1) : ((askU t u).2.busy = false ∧ (askU t u).2.fin = 0) → (askU t u).2.i = u.i + 1 ∧ u.i ≤ (u.P.length : Int) := by
  unfold askU tailU
  split
  · intro h
    unfold doneU at h ⊢
    split at h
    · exact absurd h.2 (show ¬ ((1 : Int) = 0) by decide)
    · rename_i h1 h2
      split at h
      · rename_i h3
        rw [if_neg h2, if_pos h3]
        exact ⟨rfl, by simpa using h2⟩
      · rename_i h3
        rw [if_neg h2, if_neg h3]
        exact ⟨rfl, by simpa using h2⟩
  · split
    · rintro ⟨_, h⟩; exact absurd h (show ¬ ((2 : Int) = 0) by decide)
    · rintro ⟨h, _⟩; exact absurd h (show ¬ (true = false) by decide)
def askLoop : Nat → TxS → RunM → TxS × RunM
  | 0, t, u => (t, u)
  | n + 1, t, u => if u.busy = false ∧ u.fin = 0 then askLoop n (askU t u).1 (askU t u).2 else (t, u)
def stepU (M : MemS) (t : TxS) (u : RunM) : MemS × TxS × RunM :=
  ((stepX M t).1, (stepX M t).2.1, if (stepX M t).2.2 = 1 then doneU u (stepX M t).2.1.value else if (stepX M t).2.2 = 2 then { u with fin := 2 } else u)
def nextU (M : MemS) (t : TxS) (u : RunM) : MemS × TxS × RunM :=
  if u.fin ≠ 0 then (M, t, u)
  else if (askLoop (u.P.length + 3) t u).2.fin ≠ 0 then (M, askLoop (u.P.length + 3) t u)
  else stepU M (askLoop (u.P.length + 3) t u).1 (askLoop (u.P.length + 3) t u).2
theorem loop_TI : ∀ (n : Nat) (t : TxS) (u : RunM), TI t → TI (askLoop n t u).1
  | 0, _, _, h => h
  | n + 1, t, u, h => by
    unfold askLoop
    split
    · exact loop_TI n _ _ (h.ask u)
    · exact h
theorem loop_RI : ∀ (n : Nat) (t : TxS) (u : RunM), RI u → RI (askLoop n t u).2
  | 0, _, _, h => h
  | n + 1, t, u, h => by
    unfold askLoop
    split
    · exact loop_RI n _ _ (h.ask t)
    · exact h
theorem stepU_TI {t : TxS} (h : TI t) (M : MemS) (u : RunM) : TI (stepU M t u).2.1 := h.stepX M
theorem stepU_RI {u : RunM} (h : RI u) (M : MemS) (t : TxS) : RI (stepU M t u).2.2 := by
  unfold stepU
  dsimp only
  split
  · exact h.done _
  · split
    · exact ⟨h.i0, h.i1, h.p, h.r⟩
    · exact h
theorem next_TI {t : TxS} (h : TI t) (M : MemS) (u : RunM) : TI (nextU M t u).2.1 := by
  unfold nextU
  split
  · exact h
  · split
    · exact loop_TI _ _ _ h
    · exact stepU_TI (loop_TI _ _ _ h) _ _
theorem next_RI {u : RunM} (h : RI u) (M : MemS) (t : TxS) : RI (nextU M t u).2.2 := by
  unfold nextU
  split
  · exact h
  · split
    · exact loop_RI _ _ _ h
    · exact stepU_RI (loop_RI _ _ _ h) _ _
end Go.Proofs.Ytfmamedkiaimpaa
namespace Go.Proofs.Ytfmamedkiaimpaa
open Go.RowKit
theorem loop_out (n : Nat) (t : TxS) (u : RunM) (h : ¬ (u.busy = false ∧ u.fin = 0)) : askLoop n t u = (t, u) := by
  cases n with
  | zero => rfl
  | succ n => unfold askLoop; rw [if_neg h]
theorem loop_in (n : Nat) (t : TxS) (u : RunM) (h : u.busy = false ∧ u.fin = 0) : askLoop (n + 1) t u = askLoop n (askU t u).1 (askU t u).2 := by
  rw [askLoop, if_pos h]
theorem next_end (M : MemS) (t : TxS) (u : RunM) (h : u.fin ≠ 0) : nextU M t u = (M, t, u) := by unfold nextU; rw [if_pos h]
theorem next_quit (M : MemS) (t t' : TxS) (u u' : RunM) (h : u.fin = 0) (hl : askLoop (u.P.length + 3) t u = (t', u')) (h2 : u'.fin ≠ 0) : nextU M t u = (M, t', u') := by
  unfold nextU; rw [if_neg (by simp [h]), hl, if_pos h2]
theorem next_step (M : MemS) (t t' : TxS) (u u' : RunM) (h : u.fin = 0) (hl : askLoop (u.P.length + 3) t u = (t', u')) (h2 : u'.fin = 0) : nextU M t u = stepU M t' u' := by
  unfold nextU; rw [if_neg (by simp [h]), hl, if_neg (by simp [h2])]

set_option maxHeartbeats 8000000 in
set_option maxRecDepth 100000 in
theorem rnext_any {w : World} {a X ra wa U : Nat} {v rv wv vv pv rdv : Value} {M : MemS} {t : TxS} {u : RunM} (h : NR w a v M X ra wa rv wv vv t U pv rdv u) (hti : TI t) (hri : RI u) (hM : M.L.length = 34) : Calls Try.prog 12 #[.pointer (some ⟨U, 0, none⟩), .pointer (some ⟨a, 0, none⟩), .agg #[.int .i64 3, .int .i64 1, .int .i64 3, .int .i64 0, .int .i64 4]] w fun e w' => e = .returned (.tuple #[]) ∧ NRP w w' a v (nextU M t u).1 X ra wa rv wv vv (nextU M t u).2.1 U pv rdv (nextU M t u).2.2 := by
  have hk0 := (Keeps.refl NoS w).alloc (.cells #[.int .i64 3, .int .i64 1, .int .i64 3, .int .i64 0, .int .i64 4] 31)
  have H0 := Lib.hid (h.no hk0)
  have nB : ¬ ruO a v X ra wa rv wv vv U rdv w.heap.size := fun e => by have := h.lo e; omega
  have mB := mapAt_new w 3 1 3 0 4 31
  have hBl : w.heap.size < (w.alloc (.cells #[.int .i64 3, .int .i64 1, .int .i64 3, .int .i64 0, .int .i64 4] 31)).heap.size := by simp
  have KW := Lib.hid (hk0.no (S := ruO a v X ra wa rv wv vv U rdv))
  have HT0 := Lib.hid hti; have HR0 := Lib.hid hri
  obtain ⟨B, hB⟩ : ∃ B, w.heap.size = B := ⟨_, rfl⟩
  obtain ⟨N, hNx⟩ : ∃ N, nextU M t u = N := ⟨_, rfl⟩
  have HNX := Lib.hid hNx
  rw [hNx]
  clear hNx
  by_cases hf : u.fin = 0
  · have e1 : (u.fin != 0) = false := by simpa using hf
    have HF := Lib.hid hf
    clear hf
    go_enter Try.func12, Try.ntmps12
    go_upto_region 1 with fail
    rw [hB] at nB mB hBl
    (try rw [hB])
    generalize w.alloc (.cells #[.int .i64 3, .int .i64 1, .int .i64 3, .int .i64 0, .int .i64 4] 31) = W at *
    have b4 := H0.out.c 4 (z := .int .i64 u.fin) rfl; have hl := H0.out.lt
    go_wp2_with fail
    clear b4 hl
    go_loopg [11] (u.P.length + 3) (fun g _s wq => ∃ (t1 : TxS) (u1 : RunM) (rv1 wv1 vv1 rdv1 : Value), askLoop (u.P.length + 3) t u = askLoop g t1 u1 ∧ TI t1 ∧ RI u1 ∧ u1.P = u.P ∧ (u1.busy = false ∧ u1.fin = 0 → ((u.P.length : Int) + 2 - u1.i).toNat < g) ∧ NR wq a v M X ra wa rv1 wv1 vv1 t1 U pv rdv1 u1 ∧ Keeps (ruO a v X ra wa rv wv vv U rdv) W wq ∧ (∀ g, ruO a v X ra wa rv1 wv1 vv1 U rdv1 g → ruO a v X ra wa rv wv vv U rdv g ∨ W.heap.size ≤ g))
    case atStart => exact ⟨t, u, rv, wv, vv, rdv, rfl, HT0.out, HR0.out, rfl, fun _ => by have := HR0.out.i0; omega, H0.out, Keeps.refl _ _, fun _ e => .inl e⟩
    case round =>
      obtain ⟨t1, u1, rv1, wv1, vv1, rdv1, hal, ht1, hr1, hp1, hms, hN, hk1, hg1⟩ := hrel
      have mB1 := mB.keep hk1 nB
      have nB1 := out_then hg1 nB hBl
      have HAL := Lib.hid hal; have HT1 := Lib.hid ht1; have HR1 := Lib.hid hr1; have HMS := Lib.hid hms; have HN1 := Lib.hid hN; have HK1 := Lib.hid hk1; have HG1 := Lib.hid hg1; have HP1 := Lib.hid hp1
      clear hal ht1 hr1 hms hN hk1 hg1 hp1
      have hl := HN1.out.lt
      cases hbz : u1.busy with
      | true =>
        have c3 := HN1.out.c 3 (z := .bool true) (by rw [← hbz]; rfl)
        have HLO := Lib.hid (HAL.out.trans (loop_out _ t1 u1 (by rw [hbz]; simp)))
        by_cases hf1 : u1.fin = 0
        · have e4 : (u1.fin != 0) = false := by simpa using hf1
          have HQ0 := Lib.hid (HNX.out.symm.trans (next_step M t t1 u u1 HF.out HLO.out hf1))
          have c4 := HN1.out.c 4 (z := .int .i64 u1.fin) rfl
          have c0 := HN1.out.c 0 (z := .pointer (some ⟨X, 0, none⟩)) rfl
          obtain ⟨⟨M', t', c⟩, hst⟩ : ∃ z, stepX M t1 = z := ⟨_, rfl⟩
          have HST := Lib.hid hst
          clear hst hf1 hbz
          go_upto_region 6 with (go_at_call 26; refine (xStep_any HN1.out.nx hM HT1.out.step).mono ?_; rw [HST.out]; rintro e w2 ⟨rfl, hT⟩)
          clear c0 c3 c4 hl
          obtain ⟨rv2, wv2, vv2, rdv2, hN2, hk2, hg2⟩ := HN1.out.tx hT
          have mB2 := mB1.keep hk2 nB1
          have KK := Lib.hid (HK1.out.trans' hk2 (fun i hi e => (HG1.out i e).elim id (fun z => by omega)))
          have GG := Lib.hid (show ∀ g, ruO a v X ra wa rv2 wv2 vv2 U rdv2 g → ruO a v X ra wa rv wv vv U rdv g ∨ W.heap.size ≤ g from fun g e => (hg2 g e).elim (HG1.out g) (fun z => .inr (by have := HK1.out.size; omega)))
          have HN2 := Lib.hid hN2
          clear hN2 hk2 hg2 mB mB1 hT
          have hl := HN2.out.lt
          (try dsimp only)
          by_cases hc1 : c = 1
          · have HQ := Lib.hid (HQ0.out.trans (show stepU M t1 u1 = (M', t', doneU u1 t'.value) by unfold stepU; rw [HST.out]; dsimp only; rw [if_pos hc1]))
            have e6 : (c == 1) = true := by simpa using hc1
            clear HQ0 hc1
            obtain ⟨m0, m1, m2, m3, m4⟩ := mB2
            go_wp2_with (go_at_call 39; refine (rdone_any HN2.out HR1.out.i0 HR1.out.pl HR1.out.rl 3 1 3 0 4).mono ?_; rintro e w4 ⟨rfl, hdn⟩)
            (first | go_end0 | ((try simp only [Exit.inBlock, Exit.then]); refine bodyPost_ret (results_none rfl _ _ _) rfl ?_))
            rw [HQ.out]
            exact ⟨rfl, NRP.then KW.out (fun g e => .inl e) (NRP.then KK.out GG.out hdn)⟩
          · have e6 : (c == 1) = false := by simpa using hc1
            by_cases hc2 : c = 2
            · have HQ := Lib.hid (HQ0.out.trans (show stepU M t1 u1 = (M', t', { u1 with fin := 2 }) by unfold stepU; rw [HST.out]; dsimp only; rw [if_neg hc1, if_pos hc2]))
              have e7 : (c == 2) = true := by simpa using hc2
              clear HQ0 hc1 hc2 mB2
              have b4 := HN2.out.c 4 (z := .int .i64 u1.fin) rfl; have f4 := HN2.out.f 4
              have H3 := Lib.hid (HN2.out.set 4 (.int .i64 2) (u' := { u1 with fin := 2 }) rfl rfl rfl)
              go_wp2_with fail
              (first | go_end0 | ((try simp only [Exit.inBlock, Exit.then]); refine bodyPost_ret (results_none rfl _ _ _) rfl ?_))
              rw [HQ.out]
              exact ⟨rfl, NRP.then KW.out (fun g e => .inl e) (NRP.then KK.out GG.out (H3.out.kz (keepsU _ a v X ra wa rv2 wv2 vv2 U rdv2 4 (.int .i64 2))))⟩
            · have HQ := Lib.hid (HQ0.out.trans (show stepU M t1 u1 = (M', t', u1) by unfold stepU; rw [HST.out]; dsimp only; rw [if_neg hc1, if_neg hc2]))
              have e7 : (c == 2) = false := by simpa using hc2
              clear HQ0 hc1 hc2 mB2
              go_wp2_with fail
              (first | go_end0 | ((try simp only [Exit.inBlock, Exit.then]); refine bodyPost_ret (results_none rfl _ _ _) rfl ?_))
              rw [HQ.out]
              exact ⟨rfl, NRP.then KW.out (fun g e => .inl e) (NRP.then KK.out GG.out HN2.out.self)⟩
        · have e4 : (u1.fin != 0) = true := by simpa using hf1
          have HQ := Lib.hid (HNX.out.symm.trans (next_quit M t t1 u u1 HF.out HLO.out hf1))
          have c4 := HN1.out.c 4 (z := .int .i64 u1.fin) rfl
          clear hf1 mB mB1 hbz
          go_wp2_with fail
          (first | go_end0 | ((try simp only [Exit.inBlock, Exit.then]); refine bodyPost_ret (results_none rfl _ _ _) rfl ?_))
          rw [HQ.out]
          exact ⟨rfl, NRP.then KW.out (fun g e => .inl e) (NRP.then HK1.out HG1.out HN1.out.self)⟩
      | false =>
        have c3 := HN1.out.c 3 (z := .bool false) (by rw [← hbz]; rfl)
        by_cases hf1 : u1.fin = 0
        · have e4 : (u1.fin == 0) = true := by simpa using hf1
          have c4 := HN1.out.c 4 (z := .int .i64 u1.fin) rfl
          have HC := Lib.hid (show u1.busy = false ∧ u1.fin = 0 from ⟨hbz, hf1⟩)
          clear hf1 hbz
          obtain ⟨m0, m1, m2, m3, m4⟩ := mB1
          go_wp2_with (go_at_call 38; refine (rask_any HN1.out HR1.out.i0 HR1.out.pl HR1.out.rl HT1.out.small).mono ?_; rintro e w2 ⟨rfl, rv2, wv2, vv2, rdv2, hN2, hk2, hg2⟩)
          have hms := HMS.out HC.out
          obtain ⟨g', hg'⟩ : ∃ g', gk = g' + 1 := ⟨gk - 1, by omega⟩
          have hal : askLoop (u.P.length + 3) t u = askLoop g' (askU t1 u1).1 (askU t1 u1).2 := by rw [HAL.out, hg', loop_in _ _ _ HC.out]
          go_roundg (g')
          case measure => omega
          case rel =>
            refine ⟨_, _, rv2, wv2, vv2, rdv2, hal, HT1.out.ask _, HR1.out.ask _, (ask_P _ _).trans HP1.out, fun hb => ?_, hN2, HK1.out.trans' hk2 (fun i hi e => (HG1.out i e).elim id (fun z => by omega)), fun g e => ?_⟩
            · have := ask_on t1 u1 HR1.out.i1 hb
              rw [HP1.out] at this
              omega
            · rcases hg2 g e with e2 | e2
              · exact HG1.out g e2
              · have := HK1.out.size; exact .inr (by omega)
        · have e4 : (u1.fin == 0) = false := by simpa using hf1
          have e5 : (u1.fin != 0) = true := by simpa using hf1
          have HLO := Lib.hid (HAL.out.trans (loop_out _ t1 u1 (fun e => hf1 e.2)))
          have HQ := Lib.hid (HNX.out.symm.trans (next_quit M t t1 u u1 HF.out HLO.out hf1))
          have c4 := HN1.out.c 4 (z := .int .i64 u1.fin) rfl
          clear hf1 mB mB1 hbz
          go_wp2_with fail
          (first | go_end0 | ((try simp only [Exit.inBlock, Exit.then]); refine bodyPost_ret (results_none rfl _ _ _) rfl ?_))
          rw [HQ.out]
          exact ⟨rfl, NRP.then KW.out (fun g e => .inl e) (NRP.then HK1.out HG1.out HN1.out.self)⟩
  · rw [← HNX.out, next_end M t u hf]
    have e1 : (u.fin != 0) = true := by simpa using hf
    clear HNX hf
    go_enter Try.func12, Try.ntmps12
    go_upto_region 1 with fail
    rw [hB] at nB mB hBl
    (try rw [hB])
    generalize w.alloc (.cells #[.int .i64 3, .int .i64 1, .int .i64 3, .int .i64 0, .int .i64 4] 31) = W at *
    have b4 := H0.out.c 4 (z := .int .i64 u.fin) rfl; have hl := H0.out.lt
    go_wp2_with fail
    (first | go_end0 | ((try simp only [Exit.inBlock, Exit.then]); refine bodyPost_ret (results_none rfl _ _ _) rfl ?_))
    exact ⟨rfl, NRP.then KW.out (fun g e => .inl e) H0.out.self⟩
end Go.Proofs.Ytfmamedkiaimpaa
