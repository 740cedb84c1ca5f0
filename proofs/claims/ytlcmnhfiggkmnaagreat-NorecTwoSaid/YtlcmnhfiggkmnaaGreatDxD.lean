/- The document's attempt: begin, sure, looked. -/
import Derived.Test.YtlcmnhfiggkmnaaGreatDxC
import Derived.Deep.RegionHeld3
import Derived.Deep.DeepCutAuto
import Derived.Deep.QuietTactic
import Derived.BigQuiet
namespace Go.Proofs.YtlcmnhfiggkmnaaGreat
open Go.RowKit
set_option maxHeartbeats 4000000 in
set_option maxRecDepth 100000 in
theorem dsure_any {w : World} {c Y : Nat} {u rv wv : Value} {M : MemS} {d : DxS} (h : DX w c u M Y rv wv d) (hi : 0 ≤ d.i) : Calls Tryz.prog 119 #[.pointer (some ⟨Y, 0, none⟩)] w fun e w' => e = .returned (.int .i64 (sureD d).2) ∧ DX w' c u M Y rv wv (sureD d).1 ∧ Keeps (just Y) w w' := by
  have c14 := h.tx.c 14 (u := .slice none 0 0) rfl
  have c20 := h.tx.c 20 (u := .int .i64 d.state) rfl
  have c21 := h.tx.c 21 (u := .int .i64 d.i) rfl
  have hl := h.tx.lt
  by_cases q : d.state = 5
  · have HSU := Lib.hid (show sureD d = ({ d with sure := true, state := if (0 : Int) < d.W.length then 6 else 8, i := 0 }, 0) by unfold sureD; rw [if_pos q])
    have e1 : (d.state != 5) = false := by simpa using q
    have e2 : decide (d.i < 0) = false := decide_eq_false (by omega)
    go_enter Tryz.func119, Tryz.ntmps119
    go_upto_region 1 with fail
    go_quiet (fail)
    have hn := h.no ((Keeps.refl NoS w).drewN nq)
    have k0 : Keeps (just Y) w (w.drewN nq) := (Keeps.refl (just Y) w).drewN nq
    go_upto_region 3 with fail
    generalize w.drewN nq = w0 at *
    clear c14 c20 c21 hl
    have f16 := hn.tx.f 16; have f20 := hn.tx.f 20; have f21 := hn.tx.f 21
    have c16 := hn.tx.c 16 (u := .bool d.sure) rfl
    have c20 := hn.tx.c 20 (u := .int .i64 d.state) rfl
    have c21 := hn.tx.c 21 (u := .int .i64 d.i) rfl
    have hl := hn.tx.lt
    go_upto_region 5 with fail
    have h1 := (((hn.set 16 (.bool true) (d' := { d with sure := true }) rfl rfl rfl).set 20 (.int .i64 8) (d' := { d with sure := true, state := 8 }) rfl rfl rfl).set 21 (.int .i64 0) (d' := { d with sure := true, state := 8, i := 0 }) rfl rfl rfl)
    have k1 : Keeps (just Y) w (((w0.setCell ⟨Y, 16, none⟩ (.bool true)).setCell ⟨Y, 20, none⟩ (.int .i64 8)).setCell ⟨Y, 21, none⟩ (.int .i64 0)) := k0.trans ((((Keeps.refl (just Y) w0).setCell (p := ⟨Y, 16, none⟩) (fun _ => rfl) _).setCell (p := ⟨Y, 20, none⟩) (fun _ => rfl) _).setCell (p := ⟨Y, 21, none⟩) (fun _ => rfl) _)
    generalize (((w0.setCell ⟨Y, 16, none⟩ (.bool true)).setCell ⟨Y, 20, none⟩ (.int .i64 8)).setCell ⟨Y, 21, none⟩ (.int .i64 0)) = w1 at *
    clear f16 f20 f21 c16 c20 c21 hl hn k0
    obtain ⟨wp, wc, hwv⟩ := h1.tx.wsl
    have c13 := h1.tx.c 13 (u := .slice wp d.W.length wc) (by rw [← hwv]; rfl)
    have f20 := h1.tx.f 20
    have c20 := h1.tx.c 20 (u := .int .i64 8) rfl
    have hl := h1.tx.lt
    clear hwv
    by_cases qw : (0 : Int) < d.W.length
    · have HQ := Lib.hid (show sureD d = ({ d with sure := true, state := 6, i := 0 }, 0) by rw [HSU.out, if_pos qw])
      go_wp2_with fail
      go_ret
      rw [HQ.out]
      exact ⟨rfl, h1.set 20 (.int .i64 6) (d' := { d with sure := true, state := 6, i := 0 }) rfl rfl rfl, k1.trans (keepsY w1 Y 20 (.int .i64 6))⟩
    · have HQ := Lib.hid (show sureD d = ({ d with sure := true, state := 8, i := 0 }, 0) by rw [HSU.out, if_neg qw])
      go_wp2_with fail
      go_ret
      rw [HQ.out]
      exact ⟨rfl, h1, k1⟩
  · rw [show sureD d = (d, 0) by unfold sureD; rw [if_neg q]]
    have e1 : (d.state != 5) = true := by simpa using q
    go_enter Tryz.func119, Tryz.ntmps119
    go_upto_region 1 with fail
    go_quiet (fail)
    go_wp2_with fail
    go_ret
    exact ⟨rfl, h.no ((Keeps.refl NoS w).drewN _), (Keeps.refl (just Y) w).drewN _⟩
set_option maxHeartbeats 4000000 in
set_option maxRecDepth 100000 in
theorem dBegin_any {w : World} {c Y : Nat} {u rv wv : Value} {M : MemS} {d : DxS} (h : DX w c u M Y rv wv d)  : Calls Tryz.prog 10 #[.pointer (some ⟨Y, 0, none⟩)] w fun e w' => e = .returned (.int .i64 (beginD d).2) ∧ DXP w w' c u M Y rv wv (beginD d).1 := by
  have c15 := h.tx.c 15 (u := .bool d.alive) rfl
  have c19 := h.tx.c 19 (u := .int .i64 d.job) rfl
  have hl := h.tx.lt
  cases q : d.alive
  all_goals rw [q] at c15
  · by_cases q2 : d.job = 0
    · have e2 : (d.job != 0) = false := by simpa using q2
      rw [show beginD d = ({ d with R := [], asked := 0, W := [], alive := true, sure := false, phased := false, locked := false, job := 1, state := 0, i := 0, look := 0, val := 0, made := 0, cause := 0 }, 0) by unfold beginD; rw [if_neg (by rw [q, q2]; simp)]]
      clear q q2
      have hcl := h.clear
      have h1 := (hcl.1.set 12 (.int .i64 0) (d' := { d with R := [], W := [], asked := 0 }) rfl rfl rfl).set 14 (.slice none 0 0) (d' := { d with R := [], W := [], asked := 0 }) rfl rfl rfl
      have h2 := (h1.set 32 (.slice none 0 0) (d' := { d with R := [], W := [], asked := 0 }) rfl rfl rfl).set 33 (.slice none 0 0) (d' := { d with R := [], W := [], asked := 0 }) rfl rfl rfl
      have k2 := ((((hcl.2.trans (keepsY _ Y 12 (.int .i64 0))).trans (keepsY _ Y 14 (.slice none 0 0))).trans (keepsY _ Y 32 (.slice none 0 0))).trans (keepsY _ Y 33 (.slice none 0 0)))
      unfold nilV at h2 k2
      clear hcl h1
      have c10 := h.tx.c 10 (u := rv) rfl
      have c12 := h.tx.c 12 (u := .int .i64 d.asked) rfl
      have c13 := h.tx.c 13 (u := wv) rfl
      have c14 := h.tx.c 14 (u := .slice none 0 0) rfl
      have c32 := h.tx.c 32 (u := .slice none 0 0) rfl
      have c33 := h.tx.c 33 (u := .slice none 0 0) rfl
      have f10 := h.tx.f 10
      have f12 := h.tx.f 12
      have f13 := h.tx.f 13
      have f14 := h.tx.f 14
      have f32 := h.tx.f 32
      have f33 := h.tx.f 33
      go_enter Tryz.func10, Tryz.ntmps10
      go_upto_region 4 with fail
      generalize (((((w.setCell ⟨Y, 10, none⟩ (.slice none 0 0)).setCell ⟨Y, 13, none⟩ (.slice none 0 0)).setCell ⟨Y, 12, none⟩ (.int .i64 0)).setCell ⟨Y, 14, none⟩ (.slice none 0 0)).setCell ⟨Y, 32, none⟩ (.slice none 0 0)).setCell ⟨Y, 33, none⟩ (.slice none 0 0) = w1 at *
      clear c10 c12 c13 c14 c32 c33 f10 f12 f13 f14 f32 f33 c15 c19 hl h
      obtain ⟨d1, hd1⟩ : ∃ z, z = ({ d with R := [], W := [], asked := 0 } : DxS) := ⟨_, rfl⟩
      rw [← hd1] at h2
      have HD1 := Lib.hid hd1
      clear hd1
      have c15 := h2.tx.c 15 (u := .bool d1.alive) rfl
      have c16 := h2.tx.c 16 (u := .bool d1.sure) rfl
      have c17 := h2.tx.c 17 (u := .bool d1.phased) rfl
      have c18 := h2.tx.c 18 (u := .bool d1.locked) rfl
      have f15 := h2.tx.f 15
      have f16 := h2.tx.f 16
      have f17 := h2.tx.f 17
      have f18 := h2.tx.f 18
      have hl := h2.tx.lt
      go_upto_region 5 with fail
      have h3 := ((((h2.set 15 (.bool true) (d' := { d1 with alive := true }) rfl rfl rfl).set 16 (.bool false) (d' := { d1 with alive := true, sure := false }) rfl rfl rfl).set 17 (.bool false) (d' := { d1 with alive := true, sure := false, phased := false }) rfl rfl rfl).set 18 (.bool false) (d' := { d1 with alive := true, sure := false, phased := false, locked := false }) rfl rfl rfl)
      have k3 : Keeps (just Y) w ((((w1.setCell ⟨Y, 15, none⟩ (.bool true)).setCell ⟨Y, 16, none⟩ (.bool false)).setCell ⟨Y, 17, none⟩ (.bool false)).setCell ⟨Y, 18, none⟩ (.bool false)) := k2.trans (((((Keeps.refl (just Y) w1).setCell (p := ⟨Y, 15, none⟩) (fun _ => rfl) _).setCell (p := ⟨Y, 16, none⟩) (fun _ => rfl) _).setCell (p := ⟨Y, 17, none⟩) (fun _ => rfl) _).setCell (p := ⟨Y, 18, none⟩) (fun _ => rfl) _)
      generalize ((((w1.setCell ⟨Y, 15, none⟩ (.bool true)).setCell ⟨Y, 16, none⟩ (.bool false)).setCell ⟨Y, 17, none⟩ (.bool false)).setCell ⟨Y, 18, none⟩ (.bool false)) = w2 at *
      clear c15 c16 c17 c18 f15 f16 f17 f18 hl h2 k2
      obtain ⟨d2, hd2⟩ : ∃ z, z = ({ d1 with alive := true, sure := false, phased := false, locked := false } : DxS) := ⟨_, rfl⟩
      rw [← hd2] at h3
      have HD2 := Lib.hid hd2
      clear hd2
      have c31 := h3.tx.c 31 (u := .int .i64 d2.cause) rfl
      have c30 := h3.tx.c 30 (u := .int .i64 d2.made) rfl
      have c28 := h3.tx.c 28 (u := .int .i64 d2.val) rfl
      have c19 := h3.tx.c 19 (u := .int .i64 d2.job) rfl
      have c20 := h3.tx.c 20 (u := .int .i64 d2.state) rfl
      have c21 := h3.tx.c 21 (u := .int .i64 d2.i) rfl
      have c22 := h3.tx.c 22 (u := .int .i64 d2.look) rfl
      have f31 := h3.tx.f 31
      have f30 := h3.tx.f 30
      have f28 := h3.tx.f 28
      have f19 := h3.tx.f 19
      have f20 := h3.tx.f 20
      have f21 := h3.tx.f 21
      have f22 := h3.tx.f 22
      have hl := h3.tx.lt
      go_wp2_with fail
      go_ret
      have h4 := (((((((h3.set 31 (.int .i64 0) (d' := { d2 with cause := 0 }) rfl rfl rfl).set 30 (.int .i64 0) (d' := { d2 with cause := 0, made := 0 }) rfl rfl rfl).set 28 (.int .i64 0) (d' := { d2 with cause := 0, made := 0, val := 0 }) rfl rfl rfl).set 19 (.int .i64 1) (d' := { d2 with cause := 0, made := 0, val := 0, job := 1 }) rfl rfl rfl).set 20 (.int .i64 0) (d' := { d2 with cause := 0, made := 0, val := 0, job := 1, state := 0 }) rfl rfl rfl).set 21 (.int .i64 0) (d' := { d2 with cause := 0, made := 0, val := 0, job := 1, state := 0, i := 0 }) rfl rfl rfl).set 22 (.int .i64 0) (d' := { d2 with cause := 0, made := 0, val := 0, job := 1, state := 0, i := 0, look := 0 }) rfl rfl rfl)
      have k4 : Keeps (just Y) w (((((((w2.setCell ⟨Y, 31, none⟩ (.int .i64 0)).setCell ⟨Y, 30, none⟩ (.int .i64 0)).setCell ⟨Y, 28, none⟩ (.int .i64 0)).setCell ⟨Y, 19, none⟩ (.int .i64 1)).setCell ⟨Y, 20, none⟩ (.int .i64 0)).setCell ⟨Y, 21, none⟩ (.int .i64 0)).setCell ⟨Y, 22, none⟩ (.int .i64 0)) := k3.trans ((((((((Keeps.refl (just Y) w2).setCell (p := ⟨Y, 31, none⟩) (fun _ => rfl) _).setCell (p := ⟨Y, 30, none⟩) (fun _ => rfl) _).setCell (p := ⟨Y, 28, none⟩) (fun _ => rfl) _).setCell (p := ⟨Y, 19, none⟩) (fun _ => rfl) _).setCell (p := ⟨Y, 20, none⟩) (fun _ => rfl) _).setCell (p := ⟨Y, 21, none⟩) (fun _ => rfl) _).setCell (p := ⟨Y, 22, none⟩) (fun _ => rfl) _)
      rw [HD2.out, HD1.out] at h4
      exact ⟨rfl, ⟨_, _, h4, kY k4, fun g e => .inl (e.elim (fun e => .inl e) (fun e => by rcases e with e | e <;> simp [Value.ownBlock] at e))⟩⟩
    · have e2 : (d.job != 0) = true := by simpa using q2
      rw [show beginD d = (d, 2) by unfold beginD; rw [if_pos (.inr q2)]]
      go_enter Tryz.func10, Tryz.ntmps10
      go_wp2_with fail
      go_ret
      exact ⟨rfl, h.self⟩
  · rw [show beginD d = (d, 2) by unfold beginD; rw [if_pos (.inl q)]]
    go_enter Tryz.func10, Tryz.ntmps10
    go_wp2_with fail
    go_ret
    exact ⟨rfl, h.self⟩
end Go.Proofs.YtlcmnhfiggkmnaaGreat
