/- Package norec: its small methods. -/
import Derived.Test.YtfmamedkiaimpaaTx
import Derived.Deep.RegionHeld3
import Derived.Deep.DeepCutAuto
import Derived.Deep.QuietTactic
import Derived.BigQuiet
namespace Go.Proofs.Ytfmamedkiaimpaa
open Go.RowKit
def askT (t : TxS) (job part : Int) : TxS := { t with job := job, part := part, i := 0 }
def doneT (t : TxS) : TxS := { t with job := 0 }
def undoneT (t : TxS) : TxS × Int := if t.took || t.phased then (t, 0) else ({ t with job := 0 }, 2)
def abortT (t : TxS) (c : Int) : TxS × Int := undoneT { t with life := 3, cause := c, made := 0, job := 5, part := 0, i := 0 }
theorem xValue_any {w : World} {a X ra wa : Nat} {v rv wv vv : Value} {M : MemS} {t : TxS} (h : NX w a v M X ra wa rv wv vv t)  : Calls Try.prog 31 #[.pointer (some ⟨X, 0, none⟩)] w fun e w' => e = .returned (.int .i64 t.value) ∧ w = w' := by
  have c17 := h.tx.c 17 (u := .int .i64 t.value) rfl
  go_enter Try.func31, Try.ntmps31
  go_wp2
  go_ret
  exact ⟨rfl, rfl⟩
theorem xCause_any {w : World} {a X ra wa : Nat} {v rv wv vv : Value} {M : MemS} {t : TxS} (h : NX w a v M X ra wa rv wv vv t)  : Calls Try.prog 19 #[.pointer (some ⟨X, 0, none⟩)] w fun e w' => e = .returned (.int .i64 t.cause) ∧ w = w' := by
  have c18 := h.tx.c 18 (u := .int .i64 t.cause) rfl
  go_enter Try.func19, Try.ntmps19
  go_wp2
  go_ret
  exact ⟨rfl, rfl⟩
theorem xStamp_any {w : World} {a X ra wa : Nat} {v rv wv vv : Value} {M : MemS} {t : TxS} (h : NX w a v M X ra wa rv wv vv t)  : Calls Try.prog 24 #[.pointer (some ⟨X, 0, none⟩)] w fun e w' => e = .returned (.int .i64 t.stamp) ∧ w = w' := by
  have c19 := h.tx.c 19 (u := .int .i64 t.stamp) rfl
  go_enter Try.func24, Try.ntmps24
  go_wp2
  go_ret
  exact ⟨rfl, rfl⟩
theorem xMade_any {w : World} {a X ra wa : Nat} {v rv wv vv : Value} {M : MemS} {t : TxS} (h : NX w a v M X ra wa rv wv vv t)  : Calls Try.prog 21 #[.pointer (some ⟨X, 0, none⟩)] w fun e w' => e = .returned (.int .i64 t.made) ∧ w = w' := by
  have c20 := h.tx.c 20 (u := .int .i64 t.made) rfl
  go_enter Try.func21, Try.ntmps21
  go_wp2
  go_ret
  exact ⟨rfl, rfl⟩
theorem xDecided_any {w : World} {a X ra wa : Nat} {v rv wv vv : Value} {M : MemS} {t : TxS} (h : NX w a v M X ra wa rv wv vv t)  : Calls Try.prog 15 #[.pointer (some ⟨X, 0, none⟩)] w fun e w' => e = .returned (.bool (t.life == 2)) ∧ w = w' := by
  have c10 := h.tx.c 10 (u := .int .i64 t.life) rfl
  go_enter Try.func15, Try.ntmps15
  go_wp2
  go_ret
  exact ⟨by simp, rfl⟩
theorem xidle_any {w : World} {a X ra wa : Nat} {v rv wv vv : Value} {M : MemS} {t : TxS} (h : NX w a v M X ra wa rv wv vv t)  : Calls Try.prog 56 #[.pointer (some ⟨X, 0, none⟩)] w fun e w' => e = .returned (.bool ((t.life == 1) && (t.job == 0))) ∧ w = w' := by
  have c10 := h.tx.c 10 (u := .int .i64 t.life) rfl
  have c11 := h.tx.c 11 (u := .int .i64 t.job) rfl
  cases q : (t.life == 1) <;> cases q2 : (t.job == 0)
  all_goals
    go_enter Try.func56, Try.ntmps56
    go_wp2
    go_ret
    exact ⟨rfl, rfl⟩
theorem xask_any {w : World} {a X ra wa : Nat} {v rv wv vv : Value} {M : MemS} {t : TxS} (h : NX w a v M X ra wa rv wv vv t) (job part : Int) : Calls Try.prog 60 #[.pointer (some ⟨X, 0, none⟩), .int .i64 job, .int .i64 part] w fun e w' => e = .returned (.int .i64 0) ∧ NX w' a v M X ra wa rv wv vv (askT t job part) ∧ Keeps (just X) w w' := by
  have f11 := h.tx.f 11
  have f12 := h.tx.f 12
  have f13 := h.tx.f 13
  have c11 := h.tx.c 11 (u := .int .i64 t.job) rfl
  have c12 := h.tx.c 12 (u := .int .i64 t.part) rfl
  have c13 := h.tx.c 13 (u := .int .i64 t.i) rfl
  have hl := h.tx.lt
  go_enter Try.func60, Try.ntmps60
  go_wp2
  go_ret
  exact ⟨rfl, (((h.set 11 (.int .i64 job) (t' := { t with job := job }) rfl rfl rfl rfl).set 12 (.int .i64 part) (t' := { t with job := job, part := part }) rfl rfl rfl rfl).set 13 (.int .i64 0) (t' := { t with job := job, part := part, i := 0 }) rfl rfl rfl rfl), ((((Keeps.refl (just X) w).setCell (p := ⟨X, 11, none⟩) (fun _ => rfl) _).setCell (p := ⟨X, 12, none⟩) (fun _ => rfl) _).setCell (p := ⟨X, 13, none⟩) (fun _ => rfl) _)⟩
theorem xdone_any {w : World} {a X ra wa : Nat} {v rv wv vv : Value} {M : MemS} {t : TxS} (h : NX w a v M X ra wa rv wv vv t)  : Calls Try.prog 53 #[.pointer (some ⟨X, 0, none⟩)] w fun e w' => e = .returned (.int .i64 1) ∧ NX w' a v M X ra wa rv wv vv (doneT t) ∧ Keeps (just X) w w' := by
  have f11 := h.tx.f 11
  have c11 := h.tx.c 11 (u := .int .i64 t.job) rfl
  have hl := h.tx.lt
  go_enter Try.func53, Try.ntmps53
  go_wp2
  go_ret
  exact ⟨rfl, (h.set 11 (.int .i64 0) (t' := { t with job := 0 }) rfl rfl rfl rfl), ((Keeps.refl (just X) w).setCell (p := ⟨X, 11, none⟩) (fun _ => rfl) _)⟩
theorem xundone_any {w : World} {a X ra wa : Nat} {v rv wv vv : Value} {M : MemS} {t : TxS} (h : NX w a v M X ra wa rv wv vv t)  : Calls Try.prog 68 #[.pointer (some ⟨X, 0, none⟩)] w fun e w' => e = .returned (.int .i64 (undoneT t).2) ∧ NX w' a v M X ra wa rv wv vv (undoneT t).1 ∧ Keeps (just X) w w' := by
  have f11 := h.tx.f 11
  have c11 := h.tx.c 11 (u := .int .i64 t.job) rfl
  have c21 := h.tx.c 21 (u := .bool t.took) rfl
  have c22 := h.tx.c 22 (u := .bool t.phased) rfl
  have hl := h.tx.lt
  cases q : t.took <;> cases q2 : t.phased
  all_goals rw [q] at c21; rw [q2] at c22
  · rw [show undoneT t = ({ t with job := 0 }, 2) by unfold undoneT; rw [q, q2]; rfl]
    go_enter Try.func68, Try.ntmps68
    go_wp2
    go_ret
    exact ⟨rfl, (h.set 11 (.int .i64 0) (t' := { t with job := 0 }) rfl rfl rfl rfl), ((Keeps.refl (just X) w).setCell (p := ⟨X, 11, none⟩) (fun _ => rfl) _)⟩
  · rw [show undoneT t = (t, 0) by unfold undoneT; rw [q, q2]; rfl]
    go_enter Try.func68, Try.ntmps68
    go_wp2
    go_ret
    exact ⟨rfl, h, Keeps.refl _ _⟩
  · rw [show undoneT t = (t, 0) by unfold undoneT; rw [q, q2]; rfl]
    go_enter Try.func68, Try.ntmps68
    go_wp2
    go_ret
    exact ⟨rfl, h, Keeps.refl _ _⟩
  · rw [show undoneT t = (t, 0) by unfold undoneT; rw [q, q2]; rfl]
    go_enter Try.func68, Try.ntmps68
    go_wp2
    go_ret
    exact ⟨rfl, h, Keeps.refl _ _⟩
theorem xabort_any {w : World} {a X ra wa : Nat} {v rv wv vv : Value} {M : MemS} {t : TxS} (h : NX w a v M X ra wa rv wv vv t) (c : Int) : Calls Try.prog 47 #[.pointer (some ⟨X, 0, none⟩), .int .i64 c] w fun e w' => e = .returned (.int .i64 (abortT t c).2) ∧ NX w' a v M X ra wa rv wv vv (abortT t c).1 ∧ Keeps (just X) w w' := by
  have f10 := h.tx.f 10
  have f18 := h.tx.f 18
  have f20 := h.tx.f 20
  have c10 := h.tx.c 10 (u := .int .i64 t.life) rfl
  have c18 := h.tx.c 18 (u := .int .i64 t.cause) rfl
  have c20 := h.tx.c 20 (u := .int .i64 t.made) rfl
  have hl := h.tx.lt
  have h1 := (((h.set 10 (.int .i64 3) (t' := { t with life := 3 }) rfl rfl rfl rfl).set 18 (.int .i64 c) (t' := { t with life := 3, cause := c }) rfl rfl rfl rfl).set 20 (.int .i64 0) (t' := { t with life := 3, cause := c, made := 0 }) rfl rfl rfl rfl)
  go_enter Try.func47, Try.ntmps47
  go_upto_region 2 with fail
  have k1 : Keeps (just X) w (((w.setCell ⟨X, 10, none⟩ (.int .i64 3)).setCell ⟨X, 18, none⟩ (.int .i64 c)).setCell ⟨X, 20, none⟩ (.int .i64 0)) := ((((Keeps.refl (just X) w).setCell (p := ⟨X, 10, none⟩) (fun _ => rfl) _).setCell (p := ⟨X, 18, none⟩) (fun _ => rfl) _).setCell (p := ⟨X, 20, none⟩) (fun _ => rfl) _)
  generalize (((w.setCell ⟨X, 10, none⟩ (.int .i64 3)).setCell ⟨X, 18, none⟩ (.int .i64 c)).setCell ⟨X, 20, none⟩ (.int .i64 0)) = w1 at *
  clear f10 f18 f20 c10 c18 c20 hl
  go_wp2_with (first
    | (go_at_call 60; refine (xask_any h1 5 0).mono ?_; rintro e w2 ⟨rfl, h2, k2⟩)
    | (go_at_call 68; refine (xundone_any h2).mono ?_; rintro e w3 ⟨rfl, h3, k3⟩))
  go_ret
  exact ⟨rfl, h3, (k1.trans k2).trans k3⟩
theorem over_any (s m : Int) (w : World) : Calls Try.prog 83 #[.int .i64 s, .int .i64 m] w fun e w' => e = .returned (.bool (decide (m < s))) ∧ w' = w := by
  go_enter Try.func83, Try.ntmps83
  go_wp2
  go_ret
  exact ⟨rfl, rfl⟩
def mayTakeT (t : TxS) : TxS × Int := if t.top < wrap64 (t.stamp + 2) then abortT t 5 else (t, 0)
def foundT (t : TxS) : TxS × Int := if t.job = 3 then (doneT t, 1) else if t.job = 4 then mayTakeT { t with part := 4 } else ({ t with part := 0 }, 0)
def settleT (t : TxS) : TxS :=
  if t.part = 2 then (if t.i < t.V.length then t else if (0 : Int) < t.W.length then { t with life := 2, part := 5, i := 0 } else { t with life := 2, part := if t.took then 6 else 7, i := 0 })
  else if t.part = 5 then (if t.i < t.W.length then t else { t with part := if t.took then 6 else 7 })
  else t
theorem xmayTake_any {w : World} {a X ra wa : Nat} {v rv wv vv : Value} {M : MemS} {t : TxS} (h : NX w a v M X ra wa rv wv vv t)  : Calls Try.prog 75 #[.pointer (some ⟨X, 0, none⟩)] w fun e w' => e = .returned (.int .i64 (mayTakeT t).2) ∧ NX w' a v M X ra wa rv wv vv (mayTakeT t).1 ∧ Keeps (just X) w w' := by
  have c6 := h.tx.c 6 (u := .int .i64 t.top) rfl
  have c19 := h.tx.c 19 (u := .int .i64 t.stamp) rfl
  have hl := h.tx.lt
  by_cases q : t.top < wrap64 (t.stamp + 2)
  · have hq : decide (t.top < wrap64 (t.stamp + 2)) = true := decide_eq_true q
    rw [show mayTakeT t = abortT t 5 by unfold mayTakeT; rw [if_pos q]]
    go_enter Try.func75, Try.ntmps75
    go_upto_region 1 with fail
    go_quiet ((go_at_call 83; exact Calls.quiet_of_same (over_any _ _ _)))
    go_wp2_with (go_at_call 47; refine (xabort_any (h.no ((Keeps.refl NoS _).drewN _)) 5).mono ?_; rintro e w2 ⟨rfl, h2, k2⟩)
    go_ret
    exact ⟨rfl, h2, ((Keeps.refl (just X) w).drewN _).trans k2⟩
  · have hq : decide (t.top < wrap64 (t.stamp + 2)) = false := decide_eq_false q
    rw [show mayTakeT t = (t, 0) by unfold mayTakeT; rw [if_neg q]]
    go_enter Try.func75, Try.ntmps75
    go_upto_region 1 with fail
    go_quiet ((go_at_call 83; exact Calls.quiet_of_same (over_any _ _ _)))
    go_wp2_with fail
    go_ret
    exact ⟨rfl, h.no ((Keeps.refl NoS _).drewN _), (Keeps.refl (just X) w).drewN _⟩
end Go.Proofs.Ytfmamedkiaimpaa
