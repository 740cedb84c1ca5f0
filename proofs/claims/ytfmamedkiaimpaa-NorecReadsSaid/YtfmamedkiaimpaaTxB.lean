/- Package norec: found, settle, undo, watches. -/
import Derived.Test.YtfmamedkiaimpaaTxA
import Derived.Test.YtfmamedkiaimpaaPlaceFind
namespace Go.Proofs.Ytfmamedkiaimpaa
open Go.RowKit
theorem TxAt.wlen {w : World} {X ra wa : Nat} {rv wv vv : Value} {t : TxS} (h : TxAt w X ra wa rv wv vv t) : Calls Try.prog 74 #[.pointer (some ⟨wa, 0, none⟩)] w fun e w' => e = .returned (.int .i64 t.W.length) ∧ w' = w := by
  obtain ⟨asked, hs⟩ := h.ws
  exact (wlen_any _ _ _ _ _ _ hs).mono fun _ _ hh => ⟨hh.1, hh.2.symm⟩
theorem TxAt.rlen {w : World} {X ra wa : Nat} {rv wv vv : Value} {t : TxS} (h : TxAt w X ra wa rv wv vv t) : Calls Try.prog 71 #[.pointer (some ⟨ra, 0, none⟩)] w fun e w' => e = .returned (.int .i64 t.R.length) ∧ w' = w :=
  (rlen_any _ _ _ _ _ h.rs).mono fun _ _ hh => ⟨hh.1, hh.2.symm⟩
theorem TxAt.vsl {w : World} {X ra wa : Nat} {rv wv vv : Value} {t : TxS} (h : TxAt w X ra wa rv wv vv t) : ∃ p c, vv = .slice p t.V.length c := owns_slice h.vs

set_option maxHeartbeats 4000000 in
set_option maxRecDepth 100000 in
theorem xfound_any {w : World} {a X ra wa : Nat} {v rv wv vv : Value} {M : MemS} {t : TxS} (h : NX w a v M X ra wa rv wv vv t)  : Calls Try.prog 72 #[.pointer (some ⟨X, 0, none⟩)] w fun e w' => e = .returned (.int .i64 (foundT t).2) ∧ NX w' a v M X ra wa rv wv vv (foundT t).1 ∧ Keeps (just X) w w' := by
  have hl := h.tx.lt
  have f12 := h.tx.f 12
  have c11 := h.tx.c 11 (u := .int .i64 t.job) rfl
  have c12 := h.tx.c 12 (u := .int .i64 t.part) rfl
  by_cases q3 : t.job = 3
  · rw [show foundT t = (doneT t, 1) by unfold foundT; rw [if_pos q3]]
    rw [q3] at c11
    clear q3
    go_enter Try.func72, Try.ntmps72
    go_wp2_with (go_at_call 53; refine (xdone_any h).mono ?_; rintro e w2 ⟨rfl, h2, k2⟩)
    go_ret
    exact ⟨rfl, h2, k2⟩
  by_cases q4 : t.job = 4
  · rw [show foundT t = mayTakeT { t with part := 4 } by unfold foundT; rw [if_neg q3, if_pos q4]]
    rw [q4] at c11
    clear q3 q4
    have h1 := (h.set 12 (.int .i64 4) (t' := { t with part := 4 }) rfl rfl rfl rfl)
    have k1 : Keeps (just X) w (w.setCell ⟨X, 12, none⟩ (.int .i64 4)) := ((Keeps.refl (just X) w).setCell (p := ⟨X, 12, none⟩) (fun _ => rfl) _)
    go_enter Try.func72, Try.ntmps72
    go_upto_region 6 with fail
    generalize (w.setCell ⟨X, 12, none⟩ (.int .i64 4)) = w1 at *
    clear c11 c12 f12
    go_wp2_with (go_at_call 75; refine (xmayTake_any h1).mono ?_; rintro e w2 ⟨rfl, h2, k2⟩)
    go_ret
    exact ⟨rfl, h2, k1.trans k2⟩
  rw [show foundT t = ({ t with part := 0 }, 0) by unfold foundT; rw [if_neg q3, if_neg q4]]
  have e3 : (t.job == 3) = false := by simpa using q3
  have e4 : (t.job == 4) = false := by simpa using q4
  clear q3 q4
  go_enter Try.func72, Try.ntmps72
  go_wp2
  go_ret
  exact ⟨rfl, (h.set 12 (.int .i64 0) (t' := { t with part := 0 }) rfl rfl rfl rfl), ((Keeps.refl (just X) w).setCell (p := ⟨X, 12, none⟩) (fun _ => rfl) _)⟩
set_option maxHeartbeats 4000000 in
set_option maxRecDepth 100000 in
theorem xsettle_any {w : World} {a X ra wa : Nat} {v rv wv vv : Value} {M : MemS} {t : TxS} (h : NX w a v M X ra wa rv wv vv t) : Calls Try.prog 77 #[.pointer (some ⟨X, 0, none⟩)] w fun e w' => e = .returned (.tuple #[]) ∧ NX w' a v M X ra wa rv wv vv (settleT t) ∧ Keeps (just X) w w' := by
  have hl := h.tx.lt
  obtain ⟨vp, vc, rfl⟩ := h.tx.vsl
  have f10 := h.tx.f 10
  have f12 := h.tx.f 12
  have f13 := h.tx.f 13
  have c7 := h.tx.c 7 (u := .pointer (some ⟨ra, 0, none⟩)) rfl
  have c8 := h.tx.c 8 (u := .pointer (some ⟨wa, 0, none⟩)) rfl
  have c9 := h.tx.c 9 (u := (.slice vp t.V.length vc)) rfl
  have c10 := h.tx.c 10 (u := .int .i64 t.life) rfl
  have c12 := h.tx.c 12 (u := .int .i64 t.part) rfl
  have c13 := h.tx.c 13 (u := .int .i64 t.i) rfl
  have c21 := h.tx.c 21 (u := .bool t.took) rfl
  by_cases q2 : t.part = 2
  · rw [q2] at c12
    by_cases qi : t.i < (t.V.length : Int)
    · have hq : decide (t.i < (t.V.length : Int)) = true := decide_eq_true qi
      rw [show settleT t = t by unfold settleT; rw [if_pos q2, if_pos qi]]
      clear q2 qi
      go_enter Try.func77, Try.ntmps77
      go_upto_region 3 with fail
      go_quiet (fail)
      go_wp2_with fail
      (first | go_end0 | ((try simp only [Exit.inBlock, Exit.then]); refine bodyPost_ret (results_none rfl _ _ _) rfl ?_))
      exact ⟨rfl, h.no ((Keeps.refl NoS _).drewN _), (Keeps.refl (just X) w).drewN _⟩
    · have hq : decide (t.i < (t.V.length : Int)) = false := decide_eq_false qi
      by_cases qw : (0 : Int) < t.W.length
      · have hw : 0 < t.W.length := by omega
        rw [show settleT t = { t with life := 2, part := 5, i := 0 } by unfold settleT; rw [if_pos q2, if_neg qi, if_pos qw]]
        clear q2 qi qw
        go_enter Try.func77, Try.ntmps77
        go_upto_region 3 with fail
        go_quiet (fail)
        go_upto_region 4 with fail
        have hd := h.no ((Keeps.refl NoS w).drewN nq)
        have kd : Keeps (just X) w (w.drewN nq) := (Keeps.refl (just X) w).drewN nq
        generalize w.drewN nq = wq at *
        clear c7 c8 c9 c10 c12 c13 c21 f10 f12 f13 hl
        have f10 := hd.tx.f 10
        have f12 := hd.tx.f 12
        have f13 := hd.tx.f 13
        have c10 := hd.tx.c 10 (u := .int .i64 t.life) rfl
        have c12 := hd.tx.c 12 (u := .int .i64 t.part) rfl
        have c13 := hd.tx.c 13 (u := .int .i64 t.i) rfl
        have hl := hd.tx.lt
        have h1 : NX (((wq.setCell ⟨X, 10, none⟩ (.int .i64 2)).setCell ⟨X, 12, none⟩ (.int .i64 5)).setCell ⟨X, 13, none⟩ (.int .i64 0)) a v M X ra wa rv wv (.slice vp t.V.length vc) { t with life := 2, part := 5, i := 0 } := (((hd.set 10 (.int .i64 2) (t' := { t with life := 2 }) rfl rfl rfl rfl).set 12 (.int .i64 5) (t' := { t with life := 2, part := 5 }) rfl rfl rfl rfl).set 13 (.int .i64 0) (t' := { t with life := 2, part := 5, i := 0 }) rfl rfl rfl rfl)
        have k1 : Keeps (just X) wq (((wq.setCell ⟨X, 10, none⟩ (.int .i64 2)).setCell ⟨X, 12, none⟩ (.int .i64 5)).setCell ⟨X, 13, none⟩ (.int .i64 0)) := ((((Keeps.refl (just X) wq).setCell (p := ⟨X, 10, none⟩) (fun _ => rfl) _).setCell (p := ⟨X, 12, none⟩) (fun _ => rfl) _).setCell (p := ⟨X, 13, none⟩) (fun _ => rfl) _)
        go_upto_region 5 with fail
        generalize (((wq.setCell ⟨X, 10, none⟩ (.int .i64 2)).setCell ⟨X, 12, none⟩ (.int .i64 5)).setCell ⟨X, 13, none⟩ (.int .i64 0)) = ws at *
        have k1' := kd.trans k1
        clear c10 c12 c13 f10 f12 f13 hl hd kd k1
        have c8 := h1.tx.c 8 (u := .pointer (some ⟨wa, 0, none⟩)) rfl
        have c13 := h1.tx.c 13 (u := .int .i64 0) rfl
        have hwl := fun n => (h1.no ((Keeps.refl NoS ws).drewN n)).tx.wlen
        have HWL := Lib.hid hwl
        clear hwl
        go_upto_region 5 with fail
        go_quiet ((go_at_call 74; exact Calls.quiet_of_same (HWL.out _)))
        go_wp2_with fail
        (first | go_end0 | ((try simp only [Exit.inBlock, Exit.then]); refine bodyPost_ret (results_none rfl _ _ _) rfl ?_))
        exact ⟨rfl, h1.no ((Keeps.refl NoS _).drewN _), k1'.trans ((Keeps.refl (just X) _).drewN _)⟩
      · have hw : ¬ 0 < t.W.length := by omega
        have HQ := Lib.hid (show ∀ b, t.took = b → settleT t = { t with life := 2, part := if b then 6 else 7, i := 0 } from fun b e => by unfold settleT; rw [if_pos q2, if_neg qi, if_neg qw, e])
        clear q2 qi qw
        go_enter Try.func77, Try.ntmps77
        go_upto_region 3 with fail
        go_quiet (fail)
        go_upto_region 4 with fail
        have hd := h.no ((Keeps.refl NoS w).drewN nq)
        have kd : Keeps (just X) w (w.drewN nq) := (Keeps.refl (just X) w).drewN nq
        generalize w.drewN nq = wq at *
        clear c7 c8 c9 c10 c12 c13 c21 f10 f12 f13 hl
        have f10 := hd.tx.f 10
        have f12 := hd.tx.f 12
        have f13 := hd.tx.f 13
        have c10 := hd.tx.c 10 (u := .int .i64 t.life) rfl
        have c12 := hd.tx.c 12 (u := .int .i64 t.part) rfl
        have c13 := hd.tx.c 13 (u := .int .i64 t.i) rfl
        have hl := hd.tx.lt
        have h1 : NX (((wq.setCell ⟨X, 10, none⟩ (.int .i64 2)).setCell ⟨X, 12, none⟩ (.int .i64 5)).setCell ⟨X, 13, none⟩ (.int .i64 0)) a v M X ra wa rv wv (.slice vp t.V.length vc) { t with life := 2, part := 5, i := 0 } := (((hd.set 10 (.int .i64 2) (t' := { t with life := 2 }) rfl rfl rfl rfl).set 12 (.int .i64 5) (t' := { t with life := 2, part := 5 }) rfl rfl rfl rfl).set 13 (.int .i64 0) (t' := { t with life := 2, part := 5, i := 0 }) rfl rfl rfl rfl)
        have k1 : Keeps (just X) wq (((wq.setCell ⟨X, 10, none⟩ (.int .i64 2)).setCell ⟨X, 12, none⟩ (.int .i64 5)).setCell ⟨X, 13, none⟩ (.int .i64 0)) := ((((Keeps.refl (just X) wq).setCell (p := ⟨X, 10, none⟩) (fun _ => rfl) _).setCell (p := ⟨X, 12, none⟩) (fun _ => rfl) _).setCell (p := ⟨X, 13, none⟩) (fun _ => rfl) _)
        go_upto_region 5 with fail
        generalize (((wq.setCell ⟨X, 10, none⟩ (.int .i64 2)).setCell ⟨X, 12, none⟩ (.int .i64 5)).setCell ⟨X, 13, none⟩ (.int .i64 0)) = ws at *
        have k1' := kd.trans k1
        clear c10 c12 c13 f10 f12 f13 hl hd kd k1
        have c8 := h1.tx.c 8 (u := .pointer (some ⟨wa, 0, none⟩)) rfl
        have c13 := h1.tx.c 13 (u := .int .i64 0) rfl
        have hwl := fun n => (h1.no ((Keeps.refl NoS ws).drewN n)).tx.wlen
        have HWL := Lib.hid hwl
        clear hwl
        go_upto_region 5 with fail
        go_quiet ((go_at_call 74; exact Calls.quiet_of_same (HWL.out _)))
        go_upto_region 6 with fail
        have h6 := h1.no ((Keeps.refl NoS ws).drewN nq)
        have k6 : Keeps (just X) w (ws.drewN nq) := k1'.trans ((Keeps.refl (just X) ws).drewN nq)
        generalize ws.drewN nq = w6 at *
        clear c8 c13 HWL
        have f12 := h6.tx.f 12
        have c12 := h6.tx.c 12 rfl
        have c21 := h6.tx.c 21 (u := .bool t.took) rfl
        have hl := h6.tx.lt
        have h7 := h6.set 12 (.int .i64 7) (t' := { t with life := 2, part := 7, i := 0 }) rfl rfl rfl rfl
        have h8 := h7.set 12 (.int .i64 6) (t' := { t with life := 2, part := 6, i := 0 }) rfl rfl rfl rfl
        cases qt : t.took
        all_goals rw [qt] at c21
        · go_wp2_with fail
          (first | go_end0 | ((try simp only [Exit.inBlock, Exit.then]); refine bodyPost_ret (results_none rfl _ _ _) rfl ?_))
          rw [HQ.out false qt]
          exact ⟨rfl, h7, k6.trans ((Keeps.refl (just X) w6).setCell (p := ⟨X, 12, none⟩) (fun _ => rfl) _)⟩
        · go_wp2_with fail
          (first | go_end0 | ((try simp only [Exit.inBlock, Exit.then]); refine bodyPost_ret (results_none rfl _ _ _) rfl ?_))
          rw [HQ.out true qt]
          exact ⟨rfl, h8, k6.trans (((Keeps.refl (just X) w6).setCell (p := ⟨X, 12, none⟩) (fun _ => rfl) _).setCell (p := ⟨X, 12, none⟩) (fun _ => rfl) _)⟩
  by_cases q5 : t.part = 5
  · rw [q5] at c12
    by_cases qi : t.i < (t.W.length : Int)
    · have hq : decide (t.i < (t.W.length : Int)) = true := decide_eq_true qi
      rw [show settleT t = t by unfold settleT; rw [if_neg q2, if_pos q5, if_pos qi]]
      clear q2 q5 qi
      go_enter Try.func77, Try.ntmps77
      have c8 := h.tx.c 8 (u := .pointer (some ⟨wa, 0, none⟩)) rfl
      have c13 := h.tx.c 13 (u := .int .i64 t.i) rfl
      have hwl := fun n => (h.no ((Keeps.refl NoS w).drewN n)).tx.wlen
      have HWL := Lib.hid hwl
      clear hwl
      go_upto_region 5 with fail
      go_quiet ((go_at_call 74; exact Calls.quiet_of_same (HWL.out _)))
      go_wp2_with fail
      (first | go_end0 | ((try simp only [Exit.inBlock, Exit.then]); refine bodyPost_ret (results_none rfl _ _ _) rfl ?_))
      exact ⟨rfl, h.no ((Keeps.refl NoS _).drewN _), (Keeps.refl (just X) w).trans ((Keeps.refl (just X) _).drewN _)⟩
    · have hq : decide (t.i < (t.W.length : Int)) = false := decide_eq_false qi
      have HQ := Lib.hid (show ∀ b, t.took = b → settleT t = { t with part := if b then 6 else 7 } from fun b e => by unfold settleT; rw [if_neg q2, if_pos q5, if_neg qi, e])
      clear q2 q5 qi
      go_enter Try.func77, Try.ntmps77
      have c8 := h.tx.c 8 (u := .pointer (some ⟨wa, 0, none⟩)) rfl
      have c13 := h.tx.c 13 (u := .int .i64 t.i) rfl
      have hwl := fun n => (h.no ((Keeps.refl NoS w).drewN n)).tx.wlen
      have HWL := Lib.hid hwl
      clear hwl
      go_upto_region 5 with fail
      go_quiet ((go_at_call 74; exact Calls.quiet_of_same (HWL.out _)))
      go_upto_region 6 with fail
      have h6 := h.no ((Keeps.refl NoS w).drewN nq)
      have k6 : Keeps (just X) w (w.drewN nq) := (Keeps.refl (just X) w).trans ((Keeps.refl (just X) w).drewN nq)
      generalize w.drewN nq = w6 at *
      clear c8 c13 HWL
      have f12 := h6.tx.f 12
      have c12 := h6.tx.c 12 rfl
      have c21 := h6.tx.c 21 (u := .bool t.took) rfl
      have hl := h6.tx.lt
      have h7 := h6.set 12 (.int .i64 7) (t' := { t with part := 7 }) rfl rfl rfl rfl
      have h8 := h7.set 12 (.int .i64 6) (t' := { t with part := 6 }) rfl rfl rfl rfl
      cases qt : t.took
      all_goals rw [qt] at c21
      · go_wp2_with fail
        (first | go_end0 | ((try simp only [Exit.inBlock, Exit.then]); refine bodyPost_ret (results_none rfl _ _ _) rfl ?_))
        rw [HQ.out false qt]
        exact ⟨rfl, h7, k6.trans ((Keeps.refl (just X) w6).setCell (p := ⟨X, 12, none⟩) (fun _ => rfl) _)⟩
      · go_wp2_with fail
        (first | go_end0 | ((try simp only [Exit.inBlock, Exit.then]); refine bodyPost_ret (results_none rfl _ _ _) rfl ?_))
        rw [HQ.out true qt]
        exact ⟨rfl, h8, k6.trans (((Keeps.refl (just X) w6).setCell (p := ⟨X, 12, none⟩) (fun _ => rfl) _).setCell (p := ⟨X, 12, none⟩) (fun _ => rfl) _)⟩
  rw [show settleT t = t by unfold settleT; rw [if_neg q2, if_neg q5]]
  have e2 : (t.part == 2) = false := by simpa using q2
  have e5 : (t.part == 5) = false := by simpa using q5
  clear q2 q5
  go_enter Try.func77, Try.ntmps77
  go_wp2_with fail
  (first | go_end0 | ((try simp only [Exit.inBlock, Exit.then]); refine bodyPost_ret (results_none rfl _ _ _) rfl ?_))
  exact ⟨rfl, h, Keeps.refl _ _⟩
end Go.Proofs.Ytfmamedkiaimpaa
