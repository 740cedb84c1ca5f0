/- A run asks the next thing of its plan. -/
import Derived.Test.YtfnmgccbghlbjaaRun
namespace Go.Proofs.Ytfnmgccbghlbjaa
open Go.RowKit
/-- a word's place -/
def dA (k : Int) : Int := dataP ⟨3, 1, 3, 0, 4⟩ k
def tailU (t : TxS) (u : RunM) (c : Int) : TxS × RunM := if c = 1 then (t, doneU { u with busy := false } t.value) else if c = 2 then (t, { u with busy := false, fin := 2 }) else (t, { u with busy := true })
def askR (t : TxS) (u : RunM) : TxS × Int :=
  if u.i = 0 then beginT t else if (u.P.length : Int) < u.i then commitAsk t
  else if (u.P.getD (u.i.toNat - 1) op0).1 = 0 then readT t (dA (u.P.getD (u.i.toNat - 1) op0).2.1)
  else writeT t (dA (u.P.getD (u.i.toNat - 1) op0).2.1) (valU u.rd (u.P.getD (u.i.toNat - 1) op0).2.1 (u.P.getD (u.i.toNat - 1) op0).2.2)
def askU (t : TxS) (u : RunM) : TxS × RunM := tailU (askR t u).1 u (askR t u).2
theorem undoneT_c (t : TxS) : (undoneT t).2 = 0 ∨ (undoneT t).2 = 2 := by
  unfold undoneT
  split
  · exact .inl rfl
  · exact .inr rfl
theorem abortT_c (t : TxS) (c : Int) : (abortT t c).2 = 0 ∨ (abortT t c).2 = 2 := undoneT_c _
theorem beginT_c (t : TxS) : (beginT t).2 = 0 ∨ (beginT t).2 = 2 := by
  unfold beginT
  split
  · exact .inl rfl
  · exact .inr rfl
theorem commitAsk_c (t : TxS) : (commitAsk t).2 = 0 ∨ (commitAsk t).2 = 2 := by
  unfold commitAsk
  split
  · exact .inl rfl
  · exact .inr rfl
theorem readT_c (t : TxS) (p : Int) : (readT t p).2 = 0 ∨ (readT t p).2 = 1 ∨ (readT t p).2 = 2 := by
  unfold readT
  split
  · split
    · exact .inr (.inl rfl)
    · split
      · exact (abortT_c _ _).imp id .inr
      · exact .inl rfl
  · exact .inr (.inr rfl)
theorem writeT_c (t : TxS) (p x : Int) : (writeT t p x).2 = 0 ∨ (writeT t p x).2 = 1 ∨ (writeT t p x).2 = 2 := by
  unfold writeT
  split
  · split
    · exact (abortT_c _ _).imp id .inr
    · split
      · exact .inr (.inl rfl)
      · exact (abortT_c _ _).imp id .inr
  · exact .inr (.inr rfl)
theorem NR.lo {w : World} {a X ra wa U : Nat} {v rv wv vv pv rdv : Value} {M : MemS} {t : TxS} {u : RunM} (h : NR w a v M X ra wa rv wv vv t U pv rdv u) {g : Nat} (e : ruO a v X ra wa rv wv vv U rdv g) : g < w.heap.size := by
  rcases e with e | e | e
  · exact h.bd e
  · rw [e]; exact h.lt
  · exact (h.rd.lt g e).2
/-- what is outside stays outside -/
theorem out_then {w : World} {a X ra wa U : Nat} {v rv wv vv rdv rv' wv' vv' rdv' : Value} {g : Nat} (hg : ∀ g, ruO a v X ra wa rv' wv' vv' U rdv' g → ruO a v X ra wa rv wv vv U rdv g ∨ w.heap.size ≤ g) (hn : ¬ ruO a v X ra wa rv wv vv U rdv g) (hl : g < w.heap.size) : ¬ ruO a v X ra wa rv' wv' vv' U rdv' g := fun e => (hg g e).elim hn (fun z => by omega)

set_option maxHeartbeats 8000000 in
set_option maxRecDepth 100000 in
theorem rask_any {w : World} {a X ra wa U : Nat} {v rv wv vv pv rdv : Value} {M : MemS} {t : TxS} {u : RunM} (h : NR w a v M X ra wa rv wv vv t U pv rdv u) (h0 : 0 ≤ u.i) (hP : u.P.length < 1000000) (hr : u.rd.length < 1000000) (hsm : t.W.length < 4096) : Calls Try.prog 36 #[.pointer (some ⟨U, 0, none⟩), .agg #[.int .i64 3, .int .i64 1, .int .i64 3, .int .i64 0, .int .i64 4]] w fun e w' => e = .returned (.tuple #[]) ∧ NRP w w' a v M X ra wa rv wv vv (askU t u).1 U pv rdv (askU t u).2 := by
  have hk0 := (Keeps.refl NoS w).alloc (.cells #[.int .i64 3, .int .i64 1, .int .i64 3, .int .i64 0, .int .i64 4] 25)
  have H0 := Lib.hid (h.no hk0)
  have nB : ¬ ruO a v X ra wa rv wv vv U rdv w.heap.size := fun e => by have := h.lo e; omega
  have mB := mapAt_new w 3 1 3 0 4 25
  have hBl : w.heap.size < (w.alloc (.cells #[.int .i64 3, .int .i64 1, .int .i64 3, .int .i64 0, .int .i64 4] 25)).heap.size := by simp
  have KW := Lib.hid (hk0.no (S := ruO a v X ra wa rv wv vv U rdv))
  obtain ⟨B, hB⟩ : ∃ B, w.heap.size = B := ⟨_, rfl⟩
  obtain ⟨⟨tt, cc⟩, hc⟩ : ∃ q, askR t u = q := ⟨_, rfl⟩
  have HC := Lib.hid hc
  by_cases hz : u.i = 0
  · have hA : askR t u = beginT t := by unfold askR; rw [if_pos hz]
    rw [hA] at hc
    have e1 : (u.i == 0) = true := by simpa using hz
    have HQ := Lib.hid hc
    clear hA hc
    go_enter Try.func36, Try.ntmps36
    go_upto_region 1 with fail
    rw [hB] at nB mB hBl
    (try rw [hB])
    generalize w.alloc (.cells #[.int .i64 3, .int .i64 1, .int .i64 3, .int .i64 0, .int .i64 4] 25) = W at *
    have b0 := H0.out.c 0 (z := .pointer (some ⟨X, 0, none⟩)) rfl; have b2 := H0.out.c 2 (z := .int .i64 u.i) rfl; have hl := H0.out.lt
    go_upto_region 10 with (go_at_call 27; refine (xBegin_any H0.out.nx).mono ?_; rw [HQ.out]; rintro e w2 ⟨rfl, hT⟩)
    clear b0 b2 hl
    (try dsimp only at hT)
    (try dsimp only)
    obtain ⟨rv1, wv1, vv1, rdv1, hN, hk1', hg1'⟩ := H0.out.tx hT
    have mB2 := mB.keep hk1' nB
    have nB2 := out_then hg1' nB hBl
    have hk1 := KW.out.trans hk1'
    have hg1 : ∀ g, ruO a v X ra wa rv1 wv1 vv1 U rdv1 g → ruO a v X ra wa rv wv vv U rdv g ∨ w.heap.size ≤ g := fun g e => (hg1' g e).imp id (fun z => Nat.le_trans KW.out.size z)
    clear hk1' hg1' nB mB hBl
    have hcr := (show cc = 0 ∨ cc = 2 from by have := beginT_c t; rw [HQ.out] at this; exact this)
    rcases hcr with hcc | hcc
    · subst hcc
      have HQU := Lib.hid (show askU t u = (tt, { u with busy := true }) by unfold askU tailU; rw [HC.out]; rfl)
      clear HC
      have b3 := hN.c 3 (z := .bool u.busy) rfl; have f3 := hN.f 3; have hl := hN.lt
      go_upto_region 11 with fail
      have h3 := hN.set 3 (.bool true) (u' := { u with busy := true }) rfl rfl rfl
      have k3 := keepsU w2 a v X ra wa rv1 wv1 vv1 U rdv1 3 (.bool true)
      have mB3 := mB2.keep k3 nB2
      generalize w2.setCell ⟨U, 3, none⟩ (.bool true) = w3 at *
      clear b3 f3 hl
      clear mB2 mB3
      go_wp2_with fail
      (first | go_end0 | ((try simp only [Exit.inBlock, Exit.then]); refine bodyPost_ret (results_none rfl _ _ _) rfl ?_))
      rw [HQU.out]
      exact ⟨rfl, NRP.then hk1 hg1 (h3.kz k3)⟩
    · subst hcc
      have HQU := Lib.hid (show askU t u = (tt, { u with busy := false, fin := 2 }) by unfold askU tailU; rw [HC.out]; rfl)
      clear HC
      have b3 := hN.c 3 (z := .bool u.busy) rfl; have f3 := hN.f 3; have hl := hN.lt
      go_upto_region 11 with fail
      have h3 := hN.set 3 (.bool false) (u' := { u with busy := false }) rfl rfl rfl
      have k3 := keepsU w2 a v X ra wa rv1 wv1 vv1 U rdv1 3 (.bool false)
      have mB3 := mB2.keep k3 nB2
      generalize w2.setCell ⟨U, 3, none⟩ (.bool false) = w3 at *
      clear b3 f3 hl
      clear mB2 mB3
      have b4 := h3.c 4 (z := .int .i64 u.fin) rfl; have f4 := h3.f 4; have hl := h3.lt
      go_wp2_with fail
      (first | go_end0 | ((try simp only [Exit.inBlock, Exit.then]); refine bodyPost_ret (results_none rfl _ _ _) rfl ?_))
      rw [HQU.out]
      exact ⟨rfl, NRP.then hk1 hg1 ((h3.set 4 (.int .i64 2) (u' := { u with busy := false, fin := 2 }) rfl rfl rfl).kz (k3.trans (keepsU _ a v X ra wa rv1 wv1 vv1 U rdv1 4 (.int .i64 2))))⟩

  · have e1 : (u.i == 0) = false := by simpa using hz
    by_cases hA : (u.P.length : Int) < u.i
    · have hB' : askR t u = commitAsk t := by unfold askR; rw [if_neg hz, if_pos hA]
      rw [hB'] at hc
      have e2 : decide ((u.P.length : Int) < u.i) = true := decide_eq_true hA
      have HQ := Lib.hid hc
      clear hB' hc
      obtain ⟨pp, pc, hpv⟩ := h.pl.sl
      subst hpv
      go_enter Try.func36, Try.ntmps36
      go_upto_region 1 with fail
      rw [hB] at nB mB hBl
      (try rw [hB])
      generalize w.alloc (.cells #[.int .i64 3, .int .i64 1, .int .i64 3, .int .i64 0, .int .i64 4] 25) = W at *
      have b0 := H0.out.c 0 (z := .pointer (some ⟨X, 0, none⟩)) rfl; have b1 := H0.out.c 1 (z := .slice pp u.P.length pc) rfl; have b2 := H0.out.c 2 (z := .int .i64 u.i) rfl; have hl := H0.out.lt
      go_upto_region 6 with fail
      go_quiet (fail)
      have H1 := Lib.hid (H0.out.no ((Keeps.refl NoS W).drewN nq))
      have KW1 := Lib.hid (KW.out.drewN nq)
      have mB1 := mB.keep ((Keeps.refl NoS W).drewN nq) (fun f => f)
      have hB1 : B < (W.drewN nq).heap.size := hBl
      generalize W.drewN nq = W1 at *
      clear b0 b1 b2 hl mB hBl KW H0

      have b0 := H1.out.c 0 (z := .pointer (some ⟨X, 0, none⟩)) rfl; have hl := H1.out.lt
      go_upto_region 10 with (go_at_call 30; refine (xCommit_any H1.out.nx).mono ?_; rw [HQ.out]; rintro e w2 ⟨rfl, hT, hkT⟩)
      clear b0 hl
      obtain ⟨rv1, wv1, vv1, rdv1, hN, hk1', hg1'⟩ := H1.out.tx (H1.out.nx.kx hkT hT)
      have mB2 := mB1.keep hk1' nB
      have nB2 := out_then hg1' nB hB1
      have hk1 := KW1.out.trans hk1'
      have hg1 : ∀ g, ruO a v X ra wa rv1 wv1 vv1 U rdv1 g → ruO a v X ra wa rv wv vv U rdv g ∨ w.heap.size ≤ g := fun g e => (hg1' g e).imp id (fun z => Nat.le_trans KW1.out.size z)
      clear hk1' hg1' nB mB1 hB1
      have hcr := (show cc = 0 ∨ cc = 2 from by have := commitAsk_c t; rw [HQ.out] at this; exact this)
      rcases hcr with hcc | hcc
      · subst hcc
        have HQU := Lib.hid (show askU t u = (tt, { u with busy := true }) by unfold askU tailU; rw [HC.out]; rfl)
        clear HC
        have b3 := hN.c 3 (z := .bool u.busy) rfl; have f3 := hN.f 3; have hl := hN.lt
        go_upto_region 11 with fail
        have h3 := hN.set 3 (.bool true) (u' := { u with busy := true }) rfl rfl rfl
        have k3 := keepsU w2 a v X ra wa rv1 wv1 vv1 U rdv1 3 (.bool true)
        have mB3 := mB2.keep k3 nB2
        generalize w2.setCell ⟨U, 3, none⟩ (.bool true) = w3 at *
        clear b3 f3 hl
        clear mB2 mB3
        go_wp2_with fail
        (first | go_end0 | ((try simp only [Exit.inBlock, Exit.then]); refine bodyPost_ret (results_none rfl _ _ _) rfl ?_))
        rw [HQU.out]
        exact ⟨rfl, NRP.then hk1 hg1 (h3.kz k3)⟩
      · subst hcc
        have HQU := Lib.hid (show askU t u = (tt, { u with busy := false, fin := 2 }) by unfold askU tailU; rw [HC.out]; rfl)
        clear HC
        have b3 := hN.c 3 (z := .bool u.busy) rfl; have f3 := hN.f 3; have hl := hN.lt
        go_upto_region 11 with fail
        have h3 := hN.set 3 (.bool false) (u' := { u with busy := false }) rfl rfl rfl
        have k3 := keepsU w2 a v X ra wa rv1 wv1 vv1 U rdv1 3 (.bool false)
        have mB3 := mB2.keep k3 nB2
        generalize w2.setCell ⟨U, 3, none⟩ (.bool false) = w3 at *
        clear b3 f3 hl
        clear mB2 mB3
        have b4 := h3.c 4 (z := .int .i64 u.fin) rfl; have f4 := h3.f 4; have hl := h3.lt
        go_wp2_with fail
        (first | go_end0 | ((try simp only [Exit.inBlock, Exit.then]); refine bodyPost_ret (results_none rfl _ _ _) rfl ?_))
        rw [HQU.out]
        exact ⟨rfl, NRP.then hk1 hg1 ((h3.set 4 (.int .i64 2) (u' := { u with busy := false, fin := 2 }) rfl rfl rfl).kz (k3.trans (keepsU _ a v X ra wa rv1 wv1 vv1 U rdv1 4 (.int .i64 2))))⟩

    · have e2 : decide ((u.P.length : Int) < u.i) = false := decide_eq_false hA
      obtain ⟨k, hk⟩ : ∃ k : Nat, u.i = (k : Int) + 1 := ⟨u.i.toNat - 1, by omega⟩
      have hkl : k < u.P.length := by omega
      have hke : u.i.toNat - 1 = k := by omega
      rcases h.pl with ⟨_, hv⟩ | ⟨pg, pcap, hvv, hgl, hcs⟩
      · rw [hv] at hkl; exact absurd hkl (by simp)
      obtain ⟨d0, d1, d2⟩ := hcs k hkl
      obtain ⟨⟨kd, at_, x⟩, hq⟩ : ∃ q, u.P.getD k op0 = q := ⟨_, rfl⟩
      have hD : askR t u = (if kd = 0 then readT t (dA at_) else writeT t (dA at_) (valU u.rd at_ x)) := by
        unfold askR; rw [if_neg hz, if_neg hA, hke, hq]
      rw [hD] at hc
      rw [hq] at d0 d1 d2
      dsimp only at d0 d1 d2
      have k0 : (0 : Int) ≤ (k : Int) := by omega
      have k1 : (k : Int) < (u.P.length : Int) := by omega
      have hwk : IntKind.i64.wrap (k : Int) = (k : Int) := IntWalk.i64_in _ (by omega)
      have hpg := h.dP pg (by rw [hvv]; rfl)
      have npg : ¬ ruO a v X ra wa rv wv vv U rdv pg := fun e => e.elim hpg.2.2 (fun e => e.elim hpg.2.1 (fun e => (h.dR pg e).2.1 (by rw [hvv]; rfl)))
      have d0 := hk0.cell d0 (fun f => f); have d1 := hk0.cell d1 (fun f => f); have d2 := hk0.cell d2 (fun f => f)
      have HI := Lib.hid hk
      have e1 : ((k : Int) + 1 == 0) = false := by rw [← hk]; exact e1
      have e2 : decide ((u.P.length : Int) < (k : Int) + 1) = false := by rw [← hk]; exact e2
      subst hvv
      have NPG := Lib.hid npg
      clear hpg hcs hq hke hD hA hz npg
      by_cases hkd : kd = 0
      · rw [if_pos hkd] at hc
        have e3 : (kd == 0) = true := by simpa using hkd
        have HQ := Lib.hid hc
        clear hc
        go_enter Try.func36, Try.ntmps36
        go_upto_region 1 with fail
        rw [hB] at nB mB hBl
        (try rw [hB])
        generalize w.alloc (.cells #[.int .i64 3, .int .i64 1, .int .i64 3, .int .i64 0, .int .i64 4] 25) = W at *
        have b0 := H0.out.c 0 (z := .pointer (some ⟨X, 0, none⟩)) rfl; have b1 := H0.out.c 1 (z := .slice (some ⟨pg, 0, none⟩) u.P.length pcap) rfl; have b2 := H0.out.c 2 (z := .int .i64 ((k : Int) + 1)) (by rw [← HI.out]; rfl); have hl := H0.out.lt
        go_upto_region 6 with fail
        go_quiet (fail)
        have H1 := Lib.hid (H0.out.no ((Keeps.refl NoS W).drewN nq))
        have KW1 := Lib.hid (KW.out.drewN nq)
        have mB1 := mB.keep ((Keeps.refl NoS W).drewN nq) (fun f => f)
        have hB1 : B < (W.drewN nq).heap.size := hBl
        have d0 := ((Keeps.refl NoS W).drewN nq).cell d0 (fun f => f); have d1 := ((Keeps.refl NoS W).drewN nq).cell d1 (fun f => f); have d2 := ((Keeps.refl NoS W).drewN nq).cell d2 (fun f => f)
        generalize W.drewN nq = W1 at *
        clear b0 b1 b2 hl mB hBl KW H0
        have b0 := H1.out.c 0 (z := .pointer (some ⟨X, 0, none⟩)) rfl; have b1 := H1.out.c 1 (z := .slice (some ⟨pg, 0, none⟩) u.P.length pcap) rfl; have b2 := H1.out.c 2 (z := .int .i64 ((k : Int) + 1)) (by rw [← HI.out]; rfl); have hl := H1.out.lt
        go_upto_region 8 with fail
        go_quiet (fail)
        have H2 := Lib.hid (H1.out.no ((Keeps.refl NoS W1).drewN nq))
        have KW2 := Lib.hid (KW1.out.drewN nq)
        have mB2 := mB1.keep ((Keeps.refl NoS W1).drewN nq) (fun f => f)
        have hB2 : B < (W1.drewN nq).heap.size := hB1
        have d0 := ((Keeps.refl NoS W1).drewN nq).cell d0 (fun f => f); have d1 := ((Keeps.refl NoS W1).drewN nq).cell d1 (fun f => f); have d2 := ((Keeps.refl NoS W1).drewN nq).cell d2 (fun f => f)
        generalize W1.drewN nq = W2 at *
        clear b0 b1 b2 hl mB1 hB1 KW1 H1
        have b0 := H2.out.c 0 (z := .pointer (some ⟨X, 0, none⟩)) rfl; have b1 := H2.out.c 1 (z := .slice (some ⟨pg, 0, none⟩) u.P.length pcap) rfl; have b2 := H2.out.c 2 (z := .int .i64 ((k : Int) + 1)) (by rw [← HI.out]; rfl); have hl := H2.out.lt
        go_upto_region 9 with fail
        have HS := Lib.hid (show ∀ (w' : World) (rv' wv' vv' rdv' : Value) (M' : MemS) (t' : TxS), NR w' a v M' X ra wa rv' wv' vv' t' U (.slice (some ⟨pg, 0, none⟩) u.P.length pcap) rdv' u → Keeps (ruO a v X ra wa rv wv vv U rdv) W2 w' → w'.cell? ⟨U, 0, none⟩ = some (.pointer (some ⟨X, 0, none⟩)) ∧ w'.cell? ⟨U, 1, none⟩ = some (.slice (some ⟨pg, 0, none⟩) u.P.length pcap) ∧ w'.cell? ⟨U, 2, none⟩ = some (.int .i64 ((k : Int) + 1)) ∧ w'.cell? ⟨B, 0, none⟩ = some (.int .i64 3) ∧ w'.cell? ⟨B, 1, none⟩ = some (.int .i64 1) ∧ w'.cell? ⟨B, 2, none⟩ = some (.int .i64 3) ∧ w'.cell? ⟨B, 3, none⟩ = some (.int .i64 0) ∧ w'.cell? ⟨B, 4, none⟩ = some (.int .i64 4) ∧ w'.cell? ⟨pg, k * 3 + 1, none⟩ = some (.int .i64 at_) from fun w' rv' wv' vv' rdv' M' t' Z kk =>
          ⟨by rw [blk_cell Z.hd]; rfl, by rw [blk_cell Z.hd]; rfl, by rw [blk_cell Z.hd, ← HI.out]; rfl, kk.cell mB2.1 nB, kk.cell mB2.2.1 nB, kk.cell mB2.2.2.1 nB, kk.cell mB2.2.2.2.1 nB, kk.cell mB2.2.2.2.2 nB, kk.cell d1 NPG.out⟩)
        clear b0 b1 b2 hl d0 d1 d2
        have nB2 := nB
        have HB2 := Lib.hid hB2
        clear hB2
        refine wp_region_held_drew (S := (fun w' => w'.cell? ⟨U, 0, none⟩ = some (.pointer (some ⟨X, 0, none⟩)) ∧ w'.cell? ⟨U, 1, none⟩ = some (.slice (some ⟨pg, 0, none⟩) u.P.length pcap) ∧ w'.cell? ⟨U, 2, none⟩ = some (.int .i64 ((k : Int) + 1)) ∧ w'.cell? ⟨B, 0, none⟩ = some (.int .i64 3) ∧ w'.cell? ⟨B, 1, none⟩ = some (.int .i64 1) ∧ w'.cell? ⟨B, 2, none⟩ = some (.int .i64 3) ∧ w'.cell? ⟨B, 3, none⟩ = some (.int .i64 0) ∧ w'.cell? ⟨B, 4, none⟩ = some (.int .i64 4) ∧ w'.cell? ⟨pg, k * 3 + 1, none⟩ = some (.int .i64 at_))) (by kernel_rfl) ((HS.out _ _ _ _ _ _ _ (H2.out.no (Keeps.refl NoS W2).drew) (Keeps.refl _ W2).drew)) (fun hHeld => ?_)
        refine wpAnyH_take (i := 0) (v := ?_) (by simp only [List.getElem?_toArray, List.getElem?_cons_succ, List.getElem?_cons_zero]; rfl) (by kernel_rfl) (by kernel_rfl) (by kernel_rfl) (by exact fun _ _ _ h => h) (Or.inl ⟨by rfl, ?_⟩) hHeld ?_
        rotate_left
        · intro w hSw; (try dsimp only at hSw); go_simp; (try with_reducible rfl)
        try simp only [Act.put, List.setIfInBounds_toArray, List.set_cons_zero, List.set_cons_succ, hwk]
        refine wpAnyH_take (i := 1) (v := ?_) (by simp only [List.getElem?_toArray, List.getElem?_cons_succ, List.getElem?_cons_zero]; rfl) (by kernel_rfl) (by kernel_rfl) (by kernel_rfl) (by exact fun _ _ _ h => h) (Or.inl ⟨by rfl, ?_⟩) hHeld ?_
        rotate_left
        · intro w hSw; (try dsimp only at hSw); go_simp; (try with_reducible rfl)
        try simp only [Act.put, List.setIfInBounds_toArray, List.set_cons_zero, List.set_cons_succ, hwk]
        refine wpAnyH_take (i := 2) (v := ?_) (by simp only [List.getElem?_toArray, List.getElem?_cons_succ, List.getElem?_cons_zero]; rfl) (by kernel_rfl) (by kernel_rfl) (by kernel_rfl) (by exact fun _ _ _ h => h) (Or.inl ⟨by rfl, ?_⟩) hHeld ?_
        rotate_left
        · intro w hSw; (try dsimp only at hSw); go_simp; (try with_reducible rfl)
        try simp only [Act.put, List.setIfInBounds_toArray, List.set_cons_zero, List.set_cons_succ, hwk]
        refine wpAnyH_take (i := 3) (v := ?_) (by simp only [List.getElem?_toArray, List.getElem?_cons_succ, List.getElem?_cons_zero]; rfl) (by kernel_rfl) (by kernel_rfl) (by kernel_rfl) (by exact fun _ _ _ h => h) (Or.inl ⟨by rfl, ?_⟩) hHeld ?_
        rotate_left
        · intro w hSw; (try dsimp only at hSw); go_simp; (try with_reducible rfl)
        try simp only [Act.put, List.setIfInBounds_toArray, List.set_cons_zero, List.set_cons_succ, hwk]
        refine wpAnyH_take (i := 4) (v := ?_) (by simp only [List.getElem?_toArray, List.getElem?_cons_succ, List.getElem?_cons_zero]; rfl) (by kernel_rfl) (by kernel_rfl) (by kernel_rfl) (by exact fun _ _ _ h => h) (Or.inl ⟨by rfl, ?_⟩) hHeld ?_
        rotate_left
        · intro w hSw; (try dsimp only at hSw); go_simp; (try with_reducible rfl)
        try simp only [Act.put, List.setIfInBounds_toArray, List.set_cons_zero, List.set_cons_succ, hwk]
        refine wpAnyH_take (i := 5) (v := ?_) (by simp only [List.getElem?_toArray, List.getElem?_cons_succ, List.getElem?_cons_zero]; rfl) (by kernel_rfl) (by kernel_rfl) (by kernel_rfl) (by exact fun _ _ _ h => h) (Or.inl ⟨by rfl, ?_⟩) hHeld ?_
        rotate_left
        · intro w hSw; (try dsimp only at hSw); go_simp; (try with_reducible rfl)
        try simp only [Act.put, List.setIfInBounds_toArray, List.set_cons_zero, List.set_cons_succ, hwk]
        refine wpAnyH_take (i := 6) (v := ?_) (by simp only [List.getElem?_toArray, List.getElem?_cons_succ, List.getElem?_cons_zero]; rfl) (by kernel_rfl) (by kernel_rfl) (by kernel_rfl) (by exact fun _ _ _ h => h) (Or.inl ⟨by rfl, ?_⟩) hHeld ?_
        rotate_left
        · intro w hSw; (try dsimp only at hSw); go_simp; (try with_reducible rfl)
        try simp only [Act.put, List.setIfInBounds_toArray, List.set_cons_zero, List.set_cons_succ, hwk]
        refine wpAnyH_take (i := 7) (v := ?_) (by simp only [List.getElem?_toArray, List.getElem?_cons_succ, List.getElem?_cons_zero]; rfl) (by kernel_rfl) (by kernel_rfl) (by kernel_rfl) (by exact fun _ _ _ h => h) (Or.inl ⟨by rfl, ?_⟩) hHeld ?_
        rotate_left
        · intro w hSw; (try dsimp only at hSw); go_simp; (try with_reducible rfl)
        try simp only [Act.put, List.setIfInBounds_toArray, List.set_cons_zero, List.set_cons_succ, hwk]
        refine wpAnyH_take (i := 8) (v := ?_) (by simp only [List.getElem?_toArray, List.getElem?_cons_succ, List.getElem?_cons_zero]; rfl) (by kernel_rfl) (by kernel_rfl) (by kernel_rfl) (by exact fun _ _ _ h => h) (Or.inl ⟨by rfl, ?_⟩) hHeld ?_
        rotate_left
        · intro w hSw; (try dsimp only at hSw); go_simp; (try with_reducible rfl)
        try simp only [Act.put, List.setIfInBounds_toArray, List.set_cons_zero, List.set_cons_succ, hwk]
        refine wpAnyH_take (i := 9) (v := ?_) (by simp only [List.getElem?_toArray, List.getElem?_cons_succ, List.getElem?_cons_zero]; rfl) (by kernel_rfl) (by kernel_rfl) (by kernel_rfl) (by exact fun _ _ _ h => h) (Or.inl ⟨by rfl, ?_⟩) hHeld ?_
        rotate_left
        · intro w hSw; (try dsimp only at hSw); go_simp; (try with_reducible rfl)
        try simp only [Act.put, List.setIfInBounds_toArray, List.set_cons_zero, List.set_cons_succ, hwk]
        refine wpAnyH_take (i := 10) (v := ?_) (by simp only [List.getElem?_toArray, List.getElem?_cons_succ, List.getElem?_cons_zero]; rfl) (by kernel_rfl) (by kernel_rfl) (by kernel_rfl) (by exact fun _ _ _ h => h) (Or.inl ⟨by rfl, ?_⟩) hHeld ?_
        rotate_left
        · intro w hSw; (try dsimp only at hSw); go_simp; (try with_reducible rfl)
        try simp only [Act.put, List.setIfInBounds_toArray, List.set_cons_zero, List.set_cons_succ, hwk]
        refine wpAnyH_take (i := 11) (v := ?_) (by simp only [List.getElem?_toArray, List.getElem?_cons_succ, List.getElem?_cons_zero]; rfl) (by kernel_rfl) (by kernel_rfl) (by kernel_rfl) (by exact fun _ _ _ h => h) (Or.inl ⟨by rfl, ?_⟩) hHeld ?_
        rotate_left
        · intro w hSw; (try dsimp only at hSw); go_simp; (try with_reducible rfl)
        try simp only [Act.put, List.setIfInBounds_toArray, List.set_cons_zero, List.set_cons_succ, hwk]
        refine wpAnyH_take (i := 12) (v := ?_) (by simp only [List.getElem?_toArray, List.getElem?_cons_succ, List.getElem?_cons_zero]; rfl) (by kernel_rfl) (by kernel_rfl) (by kernel_rfl) (by exact fun _ _ _ h => h) (Or.inl ⟨by rfl, ?_⟩) hHeld ?_
        rotate_left
        · intro w hSw; (try dsimp only at hSw); go_simp; (try with_reducible rfl)
        try simp only [Act.put, List.setIfInBounds_toArray, List.set_cons_zero, List.set_cons_succ, hwk]
        refine wpAnyH_take (i := 13) (v := ?_) (by simp only [List.getElem?_toArray, List.getElem?_cons_succ, List.getElem?_cons_zero]; rfl) (by kernel_rfl) (by kernel_rfl) (by kernel_rfl) (by exact fun _ _ _ h => h) (Or.inl ⟨by rfl, ?_⟩) hHeld ?_
        rotate_left
        · intro w hSw; (try dsimp only at hSw); go_simp; (try with_reducible rfl)
        try simp only [Act.put, List.setIfInBounds_toArray, List.set_cons_zero, List.set_cons_succ, hwk]
        refine wpAnyH_take (i := 14) (v := ?_) (by simp only [List.getElem?_toArray, List.getElem?_cons_succ, List.getElem?_cons_zero]; rfl) (by kernel_rfl) (by kernel_rfl) (by kernel_rfl) (by exact fun _ _ _ h => h) (Or.inl ⟨by rfl, ?_⟩) hHeld ?_
        rotate_left
        · intro w hSw; (try dsimp only at hSw); go_simp; (try with_reducible rfl)
        try simp only [Act.put, List.setIfInBounds_toArray, List.set_cons_zero, List.set_cons_succ, hwk]
        refine wpAnyH_take (i := 15) (v := ?_) (by simp only [List.getElem?_toArray, List.getElem?_cons_succ, List.getElem?_cons_zero]; rfl) (by kernel_rfl) (by kernel_rfl) (by kernel_rfl) (by exact fun _ _ _ h => h) (Or.inl ⟨by rfl, ?_⟩) hHeld ?_
        rotate_left
        · intro w hSw; (try dsimp only at hSw); go_simp; (try with_reducible rfl)
        try simp only [Act.put, List.setIfInBounds_toArray, List.set_cons_zero, List.set_cons_succ, hwk]
        refine wpAnyH_take (i := 16) (v := ?_) (by simp only [List.getElem?_toArray, List.getElem?_cons_succ, List.getElem?_cons_zero]; rfl) (by kernel_rfl) (by kernel_rfl) (by kernel_rfl) (by exact fun _ _ _ h => h) (Or.inl ⟨by rfl, ?_⟩) hHeld ?_
        rotate_left
        · intro w hSw; (try dsimp only at hSw); go_simp; (try with_reducible rfl)
        try simp only [Act.put, List.setIfInBounds_toArray, List.set_cons_zero, List.set_cons_succ, hwk]
        refine wpAnyH_ready (rs := [17]) (by kernel_rfl) (by simp) ?_
        refine AllReadyH.cons (by simp only [List.getElem?_toArray, List.getElem?_cons_succ, List.getElem?_cons_zero]; rfl) (fun kC hkC => ?_) AllReadyH.nil
        go_simp
        refine (dataAt_lit 3 1 3 0 4 at_ (dA at_) rfl _).mono ?_; rintro e w3 ⟨rfl, hk3⟩; have kd3 := (Keeps.refl NoS W2).drew.trans hk3; have H3 := Lib.hid (H2.out.no kd3); have mB1 := mB2.keep kd3 (fun f => f); have hB1 := Nat.lt_of_lt_of_le HB2.out kd3.size; have KW1 := KW2.out.trans kd3.no
        (try go_wp2_with fail)
        refine hkC.out _ _ ((HS.out _ _ _ _ _ _ _ H3.out kd3.no)) (fun hHeld => ?_)
        clear hkC kC
        try simp only [Act.put, List.setIfInBounds_toArray, List.set_cons_zero, List.set_cons_succ, hwk]
        refine wpAnyH_ready (rs := [18]) (by kernel_rfl) (by simp) ?_
        refine AllReadyH.cons (by simp only [List.getElem?_toArray, List.getElem?_cons_succ, List.getElem?_cons_zero]; rfl) (fun kC hkC => ?_) AllReadyH.nil
        go_simp
        refine (xRead_any H3.out.nx (dA at_)).mono ?_; rw [HQ.out]; rintro e w2 ⟨rfl, hT⟩; obtain ⟨rv1, wv1, vv1, rdv1, hN, hk1', hg1'⟩ := H3.out.tx hT
        (try go_wp2_with fail)
        refine hkC.out _ _ ((HS.out _ _ _ _ _ _ _ hN (kd3.no.trans hk1'))) (fun hHeld => ?_)
        clear hkC kC
        try simp only [Act.put, List.setIfInBounds_toArray, List.set_cons_zero, List.set_cons_succ, hwk]
        refine wpAnyH_take (i := 19) (v := ?_) (by simp only [List.getElem?_toArray, List.getElem?_cons_succ, List.getElem?_cons_zero]; rfl) (by kernel_rfl) (by kernel_rfl) (by kernel_rfl) (by exact fun _ _ _ h => h) (Or.inl ⟨by rfl, ?_⟩) hHeld ?_
        rotate_left
        · intro w hSw; (try dsimp only at hSw); go_simp; (try with_reducible rfl)
        try simp only [Act.put, List.setIfInBounds_toArray, List.set_cons_zero, List.set_cons_succ, hwk]
        refine wpAnyH_done (by kernel_rfl) ?_ _
        clear mB2
        have mB2 := mB1.keep hk1' nB
        have nB2 := out_then hg1' nB hB1
        have hk1 := KW1.trans hk1'
        have hg1 : ∀ g, ruO a v X ra wa rv1 wv1 vv1 U rdv1 g → ruO a v X ra wa rv wv vv U rdv g ∨ w.heap.size ≤ g := fun g e => (hg1' g e).imp id (fun z => Nat.le_trans KW1.size z)
        clear hk1' hg1' nB mB1 hB1
        have hcr := (show cc = 0 ∨ cc = 1 ∨ cc = 2 from by have := readT_c t (dA at_); rw [HQ.out] at this; exact this)
        rcases hcr with hcc | hcc | hcc
        · subst hcc
          have HQU := Lib.hid (show askU t u = (tt, { u with busy := true }) by unfold askU tailU; rw [HC.out]; rfl)
          clear HC
          have b3 := hN.c 3 (z := .bool u.busy) rfl; have f3 := hN.f 3; have hl := hN.lt
          go_upto_region 11 with fail
          have h3 := hN.set 3 (.bool true) (u' := { u with busy := true }) rfl rfl rfl
          have k3 := keepsU w2 a v X ra wa rv1 wv1 vv1 U rdv1 3 (.bool true)
          have mB3 := mB2.keep k3 nB2
          generalize w2.setCell ⟨U, 3, none⟩ (.bool true) = w3 at *
          clear b3 f3 hl
          clear mB2 mB3
          go_wp2_with fail
          (first | go_end0 | ((try simp only [Exit.inBlock, Exit.then]); refine bodyPost_ret (results_none rfl _ _ _) rfl ?_))
          rw [HQU.out]
          exact ⟨rfl, NRP.then hk1 hg1 (h3.kz k3)⟩
        · subst hcc
          have HQU := Lib.hid (show askU t u = (tt, doneU { u with busy := false } tt.value) by unfold askU tailU; rw [HC.out]; rfl)
          clear HC
          have b3 := hN.c 3 (z := .bool u.busy) rfl; have f3 := hN.f 3; have hl := hN.lt
          go_upto_region 11 with fail
          have h3 := hN.set 3 (.bool false) (u' := { u with busy := false }) rfl rfl rfl
          have k3 := keepsU w2 a v X ra wa rv1 wv1 vv1 U rdv1 3 (.bool false)
          have mB3 := mB2.keep k3 nB2
          generalize w2.setCell ⟨U, 3, none⟩ (.bool false) = w3 at *
          clear b3 f3 hl
          obtain ⟨m0, m1, m2, m3, m4⟩ := mB3
          clear mB2
          go_wp2_with (go_at_call 37; refine (rdone_any h3 h0 hP hr 3 1 3 0 4).mono ?_; rintro e w4 ⟨rfl, hdn⟩)
          (first | go_end0 | ((try simp only [Exit.inBlock, Exit.then]); refine bodyPost_ret (results_none rfl _ _ _) rfl ?_))
          rw [HQU.out]
          exact ⟨rfl, NRP.then hk1 hg1 (NRP.then k3 (fun g e => .inl e) hdn)⟩
        · subst hcc
          have HQU := Lib.hid (show askU t u = (tt, { u with busy := false, fin := 2 }) by unfold askU tailU; rw [HC.out]; rfl)
          clear HC
          have b3 := hN.c 3 (z := .bool u.busy) rfl; have f3 := hN.f 3; have hl := hN.lt
          go_upto_region 11 with fail
          have h3 := hN.set 3 (.bool false) (u' := { u with busy := false }) rfl rfl rfl
          have k3 := keepsU w2 a v X ra wa rv1 wv1 vv1 U rdv1 3 (.bool false)
          have mB3 := mB2.keep k3 nB2
          generalize w2.setCell ⟨U, 3, none⟩ (.bool false) = w3 at *
          clear b3 f3 hl
          clear mB2 mB3
          have b4 := h3.c 4 (z := .int .i64 u.fin) rfl; have f4 := h3.f 4; have hl := h3.lt
          go_wp2_with fail
          (first | go_end0 | ((try simp only [Exit.inBlock, Exit.then]); refine bodyPost_ret (results_none rfl _ _ _) rfl ?_))
          rw [HQU.out]
          exact ⟨rfl, NRP.then hk1 hg1 ((h3.set 4 (.int .i64 2) (u' := { u with busy := false, fin := 2 }) rfl rfl rfl).kz (k3.trans (keepsU _ a v X ra wa rv1 wv1 vv1 U rdv1 4 (.int .i64 2))))⟩

      · rw [if_neg hkd] at hc
        have e3 : (kd == 0) = false := by simpa using hkd
        have HQ := Lib.hid hc
        clear hc
        go_enter Try.func36, Try.ntmps36
        go_upto_region 1 with fail
        rw [hB] at nB mB hBl
        (try rw [hB])
        generalize w.alloc (.cells #[.int .i64 3, .int .i64 1, .int .i64 3, .int .i64 0, .int .i64 4] 25) = W at *
        have b0 := H0.out.c 0 (z := .pointer (some ⟨X, 0, none⟩)) rfl; have b1 := H0.out.c 1 (z := .slice (some ⟨pg, 0, none⟩) u.P.length pcap) rfl; have b2 := H0.out.c 2 (z := .int .i64 ((k : Int) + 1)) (by rw [← HI.out]; rfl); have hl := H0.out.lt
        go_upto_region 6 with fail
        go_quiet (fail)
        have H1 := Lib.hid (H0.out.no ((Keeps.refl NoS W).drewN nq))
        have KW1 := Lib.hid (KW.out.drewN nq)
        have mB1 := mB.keep ((Keeps.refl NoS W).drewN nq) (fun f => f)
        have hB1 : B < (W.drewN nq).heap.size := hBl
        have d0 := ((Keeps.refl NoS W).drewN nq).cell d0 (fun f => f); have d1 := ((Keeps.refl NoS W).drewN nq).cell d1 (fun f => f); have d2 := ((Keeps.refl NoS W).drewN nq).cell d2 (fun f => f)
        generalize W.drewN nq = W1 at *
        clear b0 b1 b2 hl mB hBl KW H0
        have b0 := H1.out.c 0 (z := .pointer (some ⟨X, 0, none⟩)) rfl; have b1 := H1.out.c 1 (z := .slice (some ⟨pg, 0, none⟩) u.P.length pcap) rfl; have b2 := H1.out.c 2 (z := .int .i64 ((k : Int) + 1)) (by rw [← HI.out]; rfl); have hl := H1.out.lt
        go_upto_region 8 with fail
        go_quiet (fail)
        have H2 := Lib.hid (H1.out.no ((Keeps.refl NoS W1).drewN nq))
        have KW2 := Lib.hid (KW1.out.drewN nq)
        have mB2 := mB1.keep ((Keeps.refl NoS W1).drewN nq) (fun f => f)
        have hB2 : B < (W1.drewN nq).heap.size := hB1
        have d0 := ((Keeps.refl NoS W1).drewN nq).cell d0 (fun f => f); have d1 := ((Keeps.refl NoS W1).drewN nq).cell d1 (fun f => f); have d2 := ((Keeps.refl NoS W1).drewN nq).cell d2 (fun f => f)
        generalize W1.drewN nq = W2 at *
        clear b0 b1 b2 hl mB1 hB1 KW1 H1
        have b0 := H2.out.c 0 (z := .pointer (some ⟨X, 0, none⟩)) rfl; have b1 := H2.out.c 1 (z := .slice (some ⟨pg, 0, none⟩) u.P.length pcap) rfl; have b2 := H2.out.c 2 (z := .int .i64 ((k : Int) + 1)) (by rw [← HI.out]; rfl); have hl := H2.out.lt
        go_upto_region 2 with fail
        have HS2 := Lib.hid (show ∀ w', Keeps NoS W2 w' → w'.cell? ⟨U, 1, none⟩ = some (.slice (some ⟨pg, 0, none⟩) u.P.length pcap) ∧ w'.cell? ⟨U, 2, none⟩ = some (.int .i64 ((k : Int) + 1)) ∧ w'.cell? ⟨pg, k * 3, none⟩ = some (.int .i64 kd) ∧ w'.cell? ⟨pg, k * 3 + 1, none⟩ = some (.int .i64 at_) ∧ w'.cell? ⟨pg, k * 3 + 2, none⟩ = some (.int .i64 x) from fun w' kk => ⟨kk.cell b1 (fun f => f), kk.cell b2 (fun f => f), kk.cell d0 (fun f => f), kk.cell d1 (fun f => f), kk.cell d2 (fun f => f)⟩)
        clear b0 b1 b2 hl d0 d1 d2
        refine wp_region_held_drew (S := (fun w' => w'.cell? ⟨U, 1, none⟩ = some (.slice (some ⟨pg, 0, none⟩) u.P.length pcap) ∧ w'.cell? ⟨U, 2, none⟩ = some (.int .i64 ((k : Int) + 1)) ∧ w'.cell? ⟨pg, k * 3, none⟩ = some (.int .i64 kd) ∧ w'.cell? ⟨pg, k * 3 + 1, none⟩ = some (.int .i64 at_) ∧ w'.cell? ⟨pg, k * 3 + 2, none⟩ = some (.int .i64 x))) (by kernel_rfl) ((HS2.out _ (Keeps.refl _ W2).drew)) (fun hHeld => ?_)
        refine wpAnyH_take (i := 0) (v := ?_) (by simp only [List.getElem?_toArray, List.getElem?_cons_succ, List.getElem?_cons_zero]; rfl) (by kernel_rfl) (by kernel_rfl) (by kernel_rfl) (by exact fun _ _ _ h => h) (Or.inl ⟨by rfl, ?_⟩) hHeld ?_
        rotate_left
        · intro w hSw; (try dsimp only at hSw); go_simp; (try with_reducible rfl)
        try simp only [Act.put, List.setIfInBounds_toArray, List.set_cons_zero, List.set_cons_succ, hwk]
        refine wpAnyH_take (i := 1) (v := ?_) (by simp only [List.getElem?_toArray, List.getElem?_cons_succ, List.getElem?_cons_zero]; rfl) (by kernel_rfl) (by kernel_rfl) (by kernel_rfl) (by exact fun _ _ _ h => h) (Or.inl ⟨by rfl, ?_⟩) hHeld ?_
        rotate_left
        · intro w hSw; (try dsimp only at hSw); go_simp; (try with_reducible rfl)
        try simp only [Act.put, List.setIfInBounds_toArray, List.set_cons_zero, List.set_cons_succ, hwk]
        refine wpAnyH_take (i := 2) (v := ?_) (by simp only [List.getElem?_toArray, List.getElem?_cons_succ, List.getElem?_cons_zero]; rfl) (by kernel_rfl) (by kernel_rfl) (by kernel_rfl) (by exact fun _ _ _ h => h) (Or.inl ⟨by rfl, ?_⟩) hHeld ?_
        rotate_left
        · intro w hSw; (try dsimp only at hSw); go_simp; (try with_reducible rfl)
        try simp only [Act.put, List.setIfInBounds_toArray, List.set_cons_zero, List.set_cons_succ, hwk]
        refine wpAnyH_take (i := 3) (v := ?_) (by simp only [List.getElem?_toArray, List.getElem?_cons_succ, List.getElem?_cons_zero]; rfl) (by kernel_rfl) (by kernel_rfl) (by kernel_rfl) (by exact fun _ _ _ h => h) (Or.inl ⟨by rfl, ?_⟩) hHeld ?_
        rotate_left
        · intro w hSw; (try dsimp only at hSw); go_simp; (try with_reducible rfl)
        try simp only [Act.put, List.setIfInBounds_toArray, List.set_cons_zero, List.set_cons_succ, hwk]
        refine wpAnyH_take (i := 4) (v := ?_) (by simp only [List.getElem?_toArray, List.getElem?_cons_succ, List.getElem?_cons_zero]; rfl) (by kernel_rfl) (by kernel_rfl) (by kernel_rfl) (by exact fun _ _ _ h => h) (Or.inl ⟨by rfl, ?_⟩) hHeld ?_
        rotate_left
        · intro w hSw; (try dsimp only at hSw); go_simp; (try with_reducible rfl)
        try simp only [Act.put, List.setIfInBounds_toArray, List.set_cons_zero, List.set_cons_succ, hwk]
        refine wpAnyH_take (i := 5) (v := ?_) (by simp only [List.getElem?_toArray, List.getElem?_cons_succ, List.getElem?_cons_zero]; rfl) (by kernel_rfl) (by kernel_rfl) (by kernel_rfl) (by exact fun _ _ _ h => h) (Or.inl ⟨by rfl, ?_⟩) hHeld ?_
        rotate_left
        · intro w hSw; (try dsimp only at hSw); go_simp; (try with_reducible rfl)
        try simp only [Act.put, List.setIfInBounds_toArray, List.set_cons_zero, List.set_cons_succ, hwk]
        refine wpAnyH_take (i := 6) (v := ?_) (by simp only [List.getElem?_toArray, List.getElem?_cons_succ, List.getElem?_cons_zero]; rfl) (by kernel_rfl) (by kernel_rfl) (by kernel_rfl) (by exact fun _ _ _ h => h) (Or.inl ⟨by rfl, ?_⟩) hHeld ?_
        rotate_left
        · intro w hSw; (try dsimp only at hSw); go_simp; (try with_reducible rfl)
        try simp only [Act.put, List.setIfInBounds_toArray, List.set_cons_zero, List.set_cons_succ, hwk]
        refine wpAnyH_take (i := 7) (v := ?_) (by simp only [List.getElem?_toArray, List.getElem?_cons_succ, List.getElem?_cons_zero]; rfl) (by kernel_rfl) (by kernel_rfl) (by kernel_rfl) (by exact fun _ _ _ h => h) (Or.inl ⟨by rfl, ?_⟩) hHeld ?_
        rotate_left
        · intro w hSw; (try dsimp only at hSw); go_simp; (try with_reducible rfl)
        try simp only [Act.put, List.setIfInBounds_toArray, List.set_cons_zero, List.set_cons_succ, hwk]
        refine wpAnyH_take (i := 8) (v := ?_) (by simp only [List.getElem?_toArray, List.getElem?_cons_succ, List.getElem?_cons_zero]; rfl) (by kernel_rfl) (by kernel_rfl) (by kernel_rfl) (by exact fun _ _ _ h => h) (Or.inl ⟨by rfl, ?_⟩) hHeld ?_
        rotate_left
        · intro w hSw; (try dsimp only at hSw); go_simp; (try with_reducible rfl)
        try simp only [Act.put, List.setIfInBounds_toArray, List.set_cons_zero, List.set_cons_succ, hwk]
        refine wpAnyH_take (i := 9) (v := ?_) (by simp only [List.getElem?_toArray, List.getElem?_cons_succ, List.getElem?_cons_zero]; rfl) (by kernel_rfl) (by kernel_rfl) (by kernel_rfl) (by exact fun _ _ _ h => h) (Or.inl ⟨by rfl, ?_⟩) hHeld ?_
        rotate_left
        · intro w hSw; (try dsimp only at hSw); go_simp; (try with_reducible rfl)
        try simp only [Act.put, List.setIfInBounds_toArray, List.set_cons_zero, List.set_cons_succ, hwk]
        refine wpAnyH_take (i := 10) (v := ?_) (by simp only [List.getElem?_toArray, List.getElem?_cons_succ, List.getElem?_cons_zero]; rfl) (by kernel_rfl) (by kernel_rfl) (by kernel_rfl) (by exact fun _ _ _ h => h) (Or.inl ⟨by rfl, ?_⟩) hHeld ?_
        rotate_left
        · intro w hSw; (try dsimp only at hSw); go_simp; (try with_reducible rfl)
        try simp only [Act.put, List.setIfInBounds_toArray, List.set_cons_zero, List.set_cons_succ, hwk]
        refine wpAnyH_ready (rs := [11]) (by kernel_rfl) (by simp) ?_
        refine AllReadyH.cons (by simp only [List.getElem?_toArray, List.getElem?_cons_succ, List.getElem?_cons_zero]; rfl) (fun kC hkC => ?_) AllReadyH.nil
        go_simp
        refine hkC.out _ _ ((HS2.out _ ((Keeps.refl _ W2).drew.alloc _))) (fun hHeld => ?_)
        clear hkC kC
        try simp only [Act.put, List.setIfInBounds_toArray, List.set_cons_zero, List.set_cons_succ, hwk]
        refine wpAnyH_ready (rs := [12]) (by kernel_rfl) (by simp) ?_
        refine AllReadyH.cons (by simp only [List.getElem?_toArray, List.getElem?_cons_succ, List.getElem?_cons_zero]; rfl) (fun kC hkC => ?_) AllReadyH.nil
        go_simp
        refine hkC.out _ _ ((HS2.out _ ((Keeps.refl _ W2).drew.alloc _))) (fun hHeld => ?_)
        clear hkC kC
        try simp only [Act.put, List.setIfInBounds_toArray, List.set_cons_zero, List.set_cons_succ, hwk]
        refine wpAnyH_done (by kernel_rfl) ?_ _
        have nB2 := nB
        have k3 : Keeps NoS W2 (W2.alloc (.cells #[.int .i64 kd, .int .i64 at_, .int .i64 x] 34)).drew := ((Keeps.refl NoS W2).alloc _).drew
        have H3 := Lib.hid (H2.out.no k3)
        have KW3 := KW2.out.trans k3.no
        have mB3 := mB2.keep k3 (fun f => f)
        have HB3 := Lib.hid (Nat.lt_of_lt_of_le hB2 k3.size)
        have nO : ¬ ruO a v X ra wa rv wv vv U rdv W2.heap.size := fun e => by have := H2.out.lo e; omega
        have o0 : (W2.alloc (.cells #[.int .i64 kd, .int .i64 at_, .int .i64 x] 34)).drew.cell? ⟨W2.heap.size, 0, none⟩ = some (.int .i64 kd) := (Keeps.refl NoS (W2.alloc (.cells #[.int .i64 kd, .int .i64 at_, .int .i64 x] 34))).drew.cell (by rw [blk_cell (heap_alloc_new _ _)]; rfl) (fun f => f)
        have o1 : (W2.alloc (.cells #[.int .i64 kd, .int .i64 at_, .int .i64 x] 34)).drew.cell? ⟨W2.heap.size, 1, none⟩ = some (.int .i64 at_) := (Keeps.refl NoS (W2.alloc (.cells #[.int .i64 kd, .int .i64 at_, .int .i64 x] 34))).drew.cell (by rw [blk_cell (heap_alloc_new _ _)]; rfl) (fun f => f)
        have o2 : (W2.alloc (.cells #[.int .i64 kd, .int .i64 at_, .int .i64 x] 34)).drew.cell? ⟨W2.heap.size, 2, none⟩ = some (.int .i64 x) := (Keeps.refl NoS (W2.alloc (.cells #[.int .i64 kd, .int .i64 at_, .int .i64 x] 34))).drew.cell (by rw [blk_cell (heap_alloc_new _ _)]; rfl) (fun f => f)
        obtain ⟨O, hO⟩ : ∃ O, W2.heap.size = O := ⟨_, rfl⟩
        clear hB2 mB2 KW2 HS2
        rw [hO] at nO o0 o1 o2
        go_upto_region 3 with fail
        (try rw [hO])
        generalize (W2.alloc (.cells #[.int .i64 kd, .int .i64 at_, .int .i64 x] 34)).drew = W3 at *
        have HS := Lib.hid (show ∀ (w' : World) (rv' wv' vv' rdv' : Value) (M' : MemS) (t' : TxS), NR w' a v M' X ra wa rv' wv' vv' t' U (.slice (some ⟨pg, 0, none⟩) u.P.length pcap) rdv' u → Keeps (ruO a v X ra wa rv wv vv U rdv) W3 w' → w'.cell? ⟨U, 0, none⟩ = some (.pointer (some ⟨X, 0, none⟩)) ∧ w'.cell? ⟨B, 0, none⟩ = some (.int .i64 3) ∧ w'.cell? ⟨B, 1, none⟩ = some (.int .i64 1) ∧ w'.cell? ⟨B, 2, none⟩ = some (.int .i64 3) ∧ w'.cell? ⟨B, 3, none⟩ = some (.int .i64 0) ∧ w'.cell? ⟨B, 4, none⟩ = some (.int .i64 4) ∧ w'.cell? ⟨O, 0, none⟩ = some (.int .i64 kd) ∧ w'.cell? ⟨O, 1, none⟩ = some (.int .i64 at_) ∧ w'.cell? ⟨O, 2, none⟩ = some (.int .i64 x) from fun w' rv' wv' vv' rdv' M' t' Z kk =>
          ⟨by rw [blk_cell Z.hd]; rfl, kk.cell mB3.1 nB, kk.cell mB3.2.1 nB, kk.cell mB3.2.2.1 nB, kk.cell mB3.2.2.2.1 nB, kk.cell mB3.2.2.2.2 nB, kk.cell o0 nO, kk.cell o1 nO, kk.cell o2 nO⟩)
        clear o0 o1 o2
        refine wp_region_held_drew (S := (fun w' => w'.cell? ⟨U, 0, none⟩ = some (.pointer (some ⟨X, 0, none⟩)) ∧ w'.cell? ⟨B, 0, none⟩ = some (.int .i64 3) ∧ w'.cell? ⟨B, 1, none⟩ = some (.int .i64 1) ∧ w'.cell? ⟨B, 2, none⟩ = some (.int .i64 3) ∧ w'.cell? ⟨B, 3, none⟩ = some (.int .i64 0) ∧ w'.cell? ⟨B, 4, none⟩ = some (.int .i64 4) ∧ w'.cell? ⟨O, 0, none⟩ = some (.int .i64 kd) ∧ w'.cell? ⟨O, 1, none⟩ = some (.int .i64 at_) ∧ w'.cell? ⟨O, 2, none⟩ = some (.int .i64 x))) (by kernel_rfl) ((HS.out _ _ _ _ _ _ _ (H3.out.no (Keeps.refl NoS W3).drew) (Keeps.refl _ W3).drew)) (fun hHeld => ?_)
        refine wpAnyH_take (i := 0) (v := ?_) (by simp only [List.getElem?_toArray, List.getElem?_cons_succ, List.getElem?_cons_zero]; rfl) (by kernel_rfl) (by kernel_rfl) (by kernel_rfl) (by exact fun _ _ _ h => h) (Or.inl ⟨by rfl, ?_⟩) hHeld ?_
        rotate_left
        · intro w hSw; (try dsimp only at hSw); go_simp; (try with_reducible rfl)
        try simp only [Act.put, List.setIfInBounds_toArray, List.set_cons_zero, List.set_cons_succ]
        refine wpAnyH_take (i := 1) (v := ?_) (by simp only [List.getElem?_toArray, List.getElem?_cons_succ, List.getElem?_cons_zero]; rfl) (by kernel_rfl) (by kernel_rfl) (by kernel_rfl) (by exact fun _ _ _ h => h) (Or.inl ⟨by rfl, ?_⟩) hHeld ?_
        rotate_left
        · intro w hSw; (try dsimp only at hSw); go_simp; (try with_reducible rfl)
        try simp only [Act.put, List.setIfInBounds_toArray, List.set_cons_zero, List.set_cons_succ]
        refine wpAnyH_take (i := 2) (v := ?_) (by simp only [List.getElem?_toArray, List.getElem?_cons_succ, List.getElem?_cons_zero]; rfl) (by kernel_rfl) (by kernel_rfl) (by kernel_rfl) (by exact fun _ _ _ h => h) (Or.inl ⟨by rfl, ?_⟩) hHeld ?_
        rotate_left
        · intro w hSw; (try dsimp only at hSw); go_simp; (try with_reducible rfl)
        try simp only [Act.put, List.setIfInBounds_toArray, List.set_cons_zero, List.set_cons_succ]
        refine wpAnyH_take (i := 3) (v := ?_) (by simp only [List.getElem?_toArray, List.getElem?_cons_succ, List.getElem?_cons_zero]; rfl) (by kernel_rfl) (by kernel_rfl) (by kernel_rfl) (by exact fun _ _ _ h => h) (Or.inl ⟨by rfl, ?_⟩) hHeld ?_
        rotate_left
        · intro w hSw; (try dsimp only at hSw); go_simp; (try with_reducible rfl)
        try simp only [Act.put, List.setIfInBounds_toArray, List.set_cons_zero, List.set_cons_succ]
        refine wpAnyH_take (i := 4) (v := ?_) (by simp only [List.getElem?_toArray, List.getElem?_cons_succ, List.getElem?_cons_zero]; rfl) (by kernel_rfl) (by kernel_rfl) (by kernel_rfl) (by exact fun _ _ _ h => h) (Or.inl ⟨by rfl, ?_⟩) hHeld ?_
        rotate_left
        · intro w hSw; (try dsimp only at hSw); go_simp; (try with_reducible rfl)
        try simp only [Act.put, List.setIfInBounds_toArray, List.set_cons_zero, List.set_cons_succ]
        refine wpAnyH_take (i := 5) (v := ?_) (by simp only [List.getElem?_toArray, List.getElem?_cons_succ, List.getElem?_cons_zero]; rfl) (by kernel_rfl) (by kernel_rfl) (by kernel_rfl) (by exact fun _ _ _ h => h) (Or.inl ⟨by rfl, ?_⟩) hHeld ?_
        rotate_left
        · intro w hSw; (try dsimp only at hSw); go_simp; (try with_reducible rfl)
        try simp only [Act.put, List.setIfInBounds_toArray, List.set_cons_zero, List.set_cons_succ]
        refine wpAnyH_take (i := 6) (v := ?_) (by simp only [List.getElem?_toArray, List.getElem?_cons_succ, List.getElem?_cons_zero]; rfl) (by kernel_rfl) (by kernel_rfl) (by kernel_rfl) (by exact fun _ _ _ h => h) (Or.inl ⟨by rfl, ?_⟩) hHeld ?_
        rotate_left
        · intro w hSw; (try dsimp only at hSw); go_simp; (try with_reducible rfl)
        try simp only [Act.put, List.setIfInBounds_toArray, List.set_cons_zero, List.set_cons_succ]
        refine wpAnyH_take (i := 8) (v := ?_) (by simp only [List.getElem?_toArray, List.getElem?_cons_succ, List.getElem?_cons_zero]; rfl) (by kernel_rfl) (by kernel_rfl) (by kernel_rfl) (by exact fun _ _ _ h => h) (Or.inl ⟨by rfl, ?_⟩) hHeld ?_
        rotate_left
        · intro w hSw; (try dsimp only at hSw); go_simp; (try with_reducible rfl)
        try simp only [Act.put, List.setIfInBounds_toArray, List.set_cons_zero, List.set_cons_succ]
        refine wpAnyH_take (i := 9) (v := ?_) (by simp only [List.getElem?_toArray, List.getElem?_cons_succ, List.getElem?_cons_zero]; rfl) (by kernel_rfl) (by kernel_rfl) (by kernel_rfl) (by exact fun _ _ _ h => h) (Or.inl ⟨by rfl, ?_⟩) hHeld ?_
        rotate_left
        · intro w hSw; (try dsimp only at hSw); go_simp; (try with_reducible rfl)
        try simp only [Act.put, List.setIfInBounds_toArray, List.set_cons_zero, List.set_cons_succ]
        refine wpAnyH_ready (rs := [7]) (by kernel_rfl) (by simp) ?_
        refine AllReadyH.cons (by simp only [List.getElem?_toArray, List.getElem?_cons_succ, List.getElem?_cons_zero]; rfl) (fun kC hkC => ?_) AllReadyH.nil
        go_simp
        refine (dataAt_lit 3 1 3 0 4 at_ (dA at_) rfl _).mono ?_; rintro e w4 ⟨rfl, hk4⟩; have kd4 := (Keeps.refl NoS W3).drew.trans hk4; have H4 := Lib.hid (H3.out.no kd4)
        (try go_wp2_with fail)
        refine hkC.out _ _ ((HS.out _ _ _ _ _ _ _ H4.out kd4.no)) (fun hHeld => ?_)
        clear hkC kC
        try simp only [Act.put, List.setIfInBounds_toArray, List.set_cons_zero, List.set_cons_succ]
        refine wpAnyH_ready (rs := [10]) (by kernel_rfl) (by simp) ?_
        refine AllReadyH.cons (by simp only [List.getElem?_toArray, List.getElem?_cons_succ, List.getElem?_cons_zero]; rfl) (fun kC hkC => ?_) AllReadyH.nil
        go_simp
        refine (rvalue_any H4.out kd at_ x hr).mono ?_; rintro e w5 ⟨rfl, hk5⟩; have kd5 := kd4.trans hk5; have H5 := Lib.hid (H3.out.no kd5); have mB1 := mB3.keep kd5 (fun f => f); have hB1 := Nat.lt_of_lt_of_le HB3.out kd5.size; have KW1 := KW3.trans kd5.no
        (try go_wp2_with fail)
        refine hkC.out _ _ ((HS.out _ _ _ _ _ _ _ H5.out kd5.no)) (fun hHeld => ?_)
        clear hkC kC
        try simp only [Act.put, List.setIfInBounds_toArray, List.set_cons_zero, List.set_cons_succ]
        refine wpAnyH_ready (rs := [11]) (by kernel_rfl) (by simp) ?_
        refine AllReadyH.cons (by simp only [List.getElem?_toArray, List.getElem?_cons_succ, List.getElem?_cons_zero]; rfl) (fun kC hkC => ?_) AllReadyH.nil
        go_simp
        refine (xWrite_any H5.out.nx (dA at_) (valU u.rd at_ x) hsm).mono ?_; rw [HQ.out]; rintro e w2 ⟨rfl, hT⟩; obtain ⟨rv1, wv1, vv1, rdv1, hN, hk1', hg1'⟩ := H5.out.tx hT
        (try go_wp2_with fail)
        refine hkC.out _ _ ((HS.out _ _ _ _ _ _ _ hN (kd5.no.trans hk1'))) (fun hHeld => ?_)
        clear hkC kC
        try simp only [Act.put, List.setIfInBounds_toArray, List.set_cons_zero, List.set_cons_succ]
        refine wpAnyH_take (i := 12) (v := ?_) (by simp only [List.getElem?_toArray, List.getElem?_cons_succ, List.getElem?_cons_zero]; rfl) (by kernel_rfl) (by kernel_rfl) (by kernel_rfl) (by exact fun _ _ _ h => h) (Or.inl ⟨by rfl, ?_⟩) hHeld ?_
        rotate_left
        · intro w hSw; (try dsimp only at hSw); go_simp; (try with_reducible rfl)
        try simp only [Act.put, List.setIfInBounds_toArray, List.set_cons_zero, List.set_cons_succ]
        refine wpAnyH_done (by kernel_rfl) ?_ _
        clear mB3
        have mB2 := mB1.keep hk1' nB
        have nB2 := out_then hg1' nB hB1
        have hk1 := KW1.trans hk1'
        have hg1 : ∀ g, ruO a v X ra wa rv1 wv1 vv1 U rdv1 g → ruO a v X ra wa rv wv vv U rdv g ∨ w.heap.size ≤ g := fun g e => (hg1' g e).imp id (fun z => Nat.le_trans KW1.size z)
        clear hk1' hg1' nB mB1 hB1
        have hcr := (show cc = 0 ∨ cc = 1 ∨ cc = 2 from by have := writeT_c t (dA at_) (valU u.rd at_ x); rw [HQ.out] at this; exact this)
        rcases hcr with hcc | hcc | hcc
        · subst hcc
          have HQU := Lib.hid (show askU t u = (tt, { u with busy := true }) by unfold askU tailU; rw [HC.out]; rfl)
          clear HC
          have b3 := hN.c 3 (z := .bool u.busy) rfl; have f3 := hN.f 3; have hl := hN.lt
          go_upto_region 11 with fail
          have h3 := hN.set 3 (.bool true) (u' := { u with busy := true }) rfl rfl rfl
          have k3 := keepsU w2 a v X ra wa rv1 wv1 vv1 U rdv1 3 (.bool true)
          have mB3 := mB2.keep k3 nB2
          generalize w2.setCell ⟨U, 3, none⟩ (.bool true) = w3 at *
          clear b3 f3 hl
          clear mB2 mB3
          go_wp2_with fail
          (first | go_end0 | ((try simp only [Exit.inBlock, Exit.then]); refine bodyPost_ret (results_none rfl _ _ _) rfl ?_))
          rw [HQU.out]
          exact ⟨rfl, NRP.then hk1 hg1 (h3.kz k3)⟩
        · subst hcc
          have HQU := Lib.hid (show askU t u = (tt, doneU { u with busy := false } tt.value) by unfold askU tailU; rw [HC.out]; rfl)
          clear HC
          have b3 := hN.c 3 (z := .bool u.busy) rfl; have f3 := hN.f 3; have hl := hN.lt
          go_upto_region 11 with fail
          have h3 := hN.set 3 (.bool false) (u' := { u with busy := false }) rfl rfl rfl
          have k3 := keepsU w2 a v X ra wa rv1 wv1 vv1 U rdv1 3 (.bool false)
          have mB3 := mB2.keep k3 nB2
          generalize w2.setCell ⟨U, 3, none⟩ (.bool false) = w3 at *
          clear b3 f3 hl
          obtain ⟨m0, m1, m2, m3, m4⟩ := mB3
          clear mB2
          go_wp2_with (go_at_call 37; refine (rdone_any h3 h0 hP hr 3 1 3 0 4).mono ?_; rintro e w4 ⟨rfl, hdn⟩)
          (first | go_end0 | ((try simp only [Exit.inBlock, Exit.then]); refine bodyPost_ret (results_none rfl _ _ _) rfl ?_))
          rw [HQU.out]
          exact ⟨rfl, NRP.then hk1 hg1 (NRP.then k3 (fun g e => .inl e) hdn)⟩
        · subst hcc
          have HQU := Lib.hid (show askU t u = (tt, { u with busy := false, fin := 2 }) by unfold askU tailU; rw [HC.out]; rfl)
          clear HC
          have b3 := hN.c 3 (z := .bool u.busy) rfl; have f3 := hN.f 3; have hl := hN.lt
          go_upto_region 11 with fail
          have h3 := hN.set 3 (.bool false) (u' := { u with busy := false }) rfl rfl rfl
          have k3 := keepsU w2 a v X ra wa rv1 wv1 vv1 U rdv1 3 (.bool false)
          have mB3 := mB2.keep k3 nB2
          generalize w2.setCell ⟨U, 3, none⟩ (.bool false) = w3 at *
          clear b3 f3 hl
          clear mB2 mB3
          have b4 := h3.c 4 (z := .int .i64 u.fin) rfl; have f4 := h3.f 4; have hl := h3.lt
          go_wp2_with fail
          (first | go_end0 | ((try simp only [Exit.inBlock, Exit.then]); refine bodyPost_ret (results_none rfl _ _ _) rfl ?_))
          rw [HQU.out]
          exact ⟨rfl, NRP.then hk1 hg1 ((h3.set 4 (.int .i64 2) (u' := { u with busy := false, fin := 2 }) rfl rfl rfl).kz (k3.trans (keepsU _ a v X ra wa rv1 wv1 vv1 U rdv1 4 (.int .i64 2))))⟩


end Go.Proofs.Ytfnmgccbghlbjaa
