/- The document's attempt: what is asked; a new one. -/
import Derived.Test.YtlcmnhfiggkmnaaGreatDxG
import Derived.Test.YtlcmnhfiggkmnaaGreatHeldT
import Derived.Deep.RegionHeld3
import Derived.Deep.DeepCutAuto
import Derived.Deep.QuietTactic
import Derived.BigQuiet
namespace Go.Proofs.YtlcmnhfiggkmnaaGreat
open Go.RowKit
set_option maxHeartbeats 4000000 in
set_option maxRecDepth 100000 in
theorem dRead_any {w : World} {c Y : Nat} {u rv wv : Value} {M : MemS} {d : DxS} (h : DX w c u M Y rv wv d) (p : Int) (hrl : d.R.length ≤ 32) (hwl : d.W.length ≤ 32) : Calls Tryz.prog 15 #[.pointer (some ⟨Y, 0, none⟩), .int .i64 p] w fun e w' => e = .returned (.int .i64 (readD d p).2) ∧ DXP w w' c u M Y rv wv (readD d p).1 := by
  have hl := h.tx.lt
  cases hid : idleD d with
  | false =>
    have HR := Lib.hid (show readD d p = (d, 2) by unfold readD; rw [hid]; rfl)
    have HID := Lib.hid hid
    have HAR := Lib.hid (show askR2 d 2 = d by unfold askR2; rw [hid]; rfl)
    clear hid
    go_enter Tryz.func15, Tryz.ntmps15
    go_wp2_with (go_at_call 37; refine (dask_any h 2).mono ?_; rw [HID.out, HAR.out]; rintro e w1 ⟨rfl, h1, k1⟩)
    go_ret
    rw [HR.out]
    exact ⟨rfl, h1.kp (kY k1)⟩
  | true =>
    have HID := Lib.hid hid
    have HAR := Lib.hid (show askR2 d 2 = askD d 2 by unfold askR2; rw [hid]; rfl)
    cases hin : inD p with
    | false =>
      have HR := Lib.hid (show readD d p = abortD (askD d 2) 4 by unfold readD; rw [hid, hin]; rfl)
      have HIN := Lib.hid hin
      clear hid hin
      go_enter Tryz.func15, Tryz.ntmps15
      go_wp2_with (first
        | (go_at_call 37; refine (dask_any h 2).mono ?_; rw [HID.out, HAR.out]; rintro e w1 ⟨rfl, h1, k1⟩)
        | (go_at_call 45; refine (din_any h1 p).mono ?_; rw [HIN.out]; rintro e w2 ⟨rfl, hk2⟩; have h2 := h1.no hk2; have k2 : Keeps (just Y) w w2 := k1.trans hk2.no)
        | (go_at_call 46; refine (dabort_any h2 4).mono ?_; rintro e w3 ⟨rfl, h3, k3⟩))
      go_ret
      rw [HR.out]
      exact ⟨rfl, h3.kp (kY (k2.trans k3))⟩
    | true =>
      have HIN := Lib.hid hin
      cases hhw : hasW d.W p with
      | true =>
        have HR := Lib.hid (show readD d p = ({ askD d 2 with asked := askedL d.W p d.asked, val := getW d.W p, job := 0 }, 1) by unfold readD; rw [hid, hin, hhw]; rfl)
        have HHW := Lib.hid hhw
        clear hid hin hhw
        go_enter Tryz.func15, Tryz.ntmps15
        go_upto_region 6 with (first
          | (go_at_call 37; refine (dask_any h 2).mono ?_; rw [HID.out, HAR.out]; rintro e w1 ⟨rfl, h1, k1⟩)
          | (go_at_call 45; refine (din_any h1 p).mono ?_; rw [HIN.out]; rintro e w2 ⟨rfl, hk2⟩; have h2 := h1.no hk2; have k2 : Keeps (just Y) w w2 := k1.trans hk2.no)
          | (go_at_call 47; refine (dget_any h2 hwl p).mono ?_; (try dsimp only [askD]); rw [HHW.out]; rintro e w3 ⟨rfl, h3, k3⟩))
        have k4 : Keeps (just Y) w w3 := k2.trans k3
        clear h1 h2 k1 k2 k3 hk2
        have c28 := h3.tx.c 28 (u := .int .i64 d.val) rfl
        have c19 := h3.tx.c 19 (u := .int .i64 2) rfl
        have f28 := h3.tx.f 28; have f19 := h3.tx.f 19
        have hl3 := h3.tx.lt
        go_wp2_with fail
        go_ret
        rw [HR.out]
        exact ⟨rfl, ((h3.set 28 (.int .i64 (getW d.W p)) (d' := { askD d 2 with asked := askedL d.W p d.asked, val := getW d.W p }) rfl rfl rfl).set 19 (.int .i64 0) (d' := { askD d 2 with asked := askedL d.W p d.asked, val := getW d.W p, job := 0 }) rfl rfl rfl).kp (kY (k4.trans ((keepsY w3 Y 28 (.int .i64 (getW d.W p))).trans (keepsY _ Y 19 (.int .i64 0)))))⟩
      | false =>
        have HHW := Lib.hid hhw
        cases hro : roomFor 32 d.R p with
        | true =>
          have HR := Lib.hid (show readD d p = ({ askD d 2 with asked := askedL d.W p d.asked, pl := p }, 0) by unfold readD; rw [hid, hin, hhw, hro]; rfl)
          have HRO := Lib.hid hro
          clear hid hin hhw hro
          go_enter Tryz.func15, Tryz.ntmps15
          go_upto_region 9 with (first
            | (go_at_call 37; refine (dask_any h 2).mono ?_; rw [HID.out, HAR.out]; rintro e w1 ⟨rfl, h1, k1⟩)
            | (go_at_call 45; refine (din_any h1 p).mono ?_; rw [HIN.out]; rintro e w2 ⟨rfl, hk2⟩; have h2 := h1.no hk2; have k2 : Keeps (just Y) w w2 := k1.trans hk2.no)
            | (go_at_call 47; refine (dget_any h2 hwl p).mono ?_; (try dsimp only [askD]); rw [HHW.out]; rintro e w3 ⟨rfl, h3, k3⟩))
          have k4 : Keeps (just Y) w w3 := k2.trans k3
          clear h1 h2 k1 k2 k3 hk2
          have hd := h3.no ((Keeps.refl NoS w3).drew)
          clear h3
          refine wp_region_held_drew (S := (fun _ => True)) (by kernel_rfl) (trivial) (fun hHeld => ?_)
          refine wpAnyH_take (i := 0) (v := ?_) (by simp only [List.getElem?_toArray, List.getElem?_cons_succ, List.getElem?_cons_zero]; rfl) (by kernel_rfl) (by kernel_rfl) (by kernel_rfl) (by exact fun _ _ _ h => h) (Or.inl ⟨by rfl, ?_⟩) hHeld ?_
          rotate_left
          · intro w hSw; (try dsimp only at hSw); go_simp; (try with_reducible rfl)
          try simp only [Act.put, List.setIfInBounds_toArray, List.set_cons_zero, List.set_cons_succ]
          refine wpAnyH_take (i := 1) (v := ?_) (by simp only [List.getElem?_toArray, List.getElem?_cons_succ, List.getElem?_cons_zero]; rfl) (by kernel_rfl) (by kernel_rfl) (by kernel_rfl) (by exact fun _ _ _ h => h) (Or.inl ⟨by rfl, ?_⟩) hHeld ?_
          rotate_left
          · intro w hSw; (try dsimp only at hSw); go_simp; (try with_reducible rfl)
          try simp only [Act.put, List.setIfInBounds_toArray, List.set_cons_zero, List.set_cons_succ]
          refine wpAnyH_take (i := 2) (v := ?_) (by simp only [List.getElem?_toArray, List.getElem?_cons_succ, List.getElem?_cons_zero]; rfl) (by kernel_rfl) (by kernel_rfl) (by kernel_rfl) (by exact fun _ _ _ h => h) (Or.inl ⟨by rfl, ?_⟩) hHeld ?_
          rotate_left
          · intro w hSw; (try dsimp only at hSw); go_simp; (try with_reducible rfl)
          try simp only [Act.put, List.setIfInBounds_toArray, List.set_cons_zero, List.set_cons_succ]
          refine wpAnyH_take (i := 3) (v := ?_) (by simp only [List.getElem?_toArray, List.getElem?_cons_succ, List.getElem?_cons_zero]; rfl) (by kernel_rfl) (by kernel_rfl) (by kernel_rfl) (by exact fun _ _ _ h => h) (Or.inl ⟨by rfl, ?_⟩) hHeld ?_
          rotate_left
          · intro w hSw; (try dsimp only at hSw); go_simp; (try with_reducible rfl)
          try simp only [Act.put, List.setIfInBounds_toArray, List.set_cons_zero, List.set_cons_succ]
          refine wpAnyH_take (i := 4) (v := ?_) (by simp only [List.getElem?_toArray, List.getElem?_cons_succ, List.getElem?_cons_zero]; rfl) (by kernel_rfl) (by kernel_rfl) (by kernel_rfl) (by exact fun _ _ _ h => h) (Or.inl ⟨by rfl, ?_⟩) hHeld ?_
          rotate_left
          · intro w hSw; (try dsimp only at hSw); go_simp; (try with_reducible rfl)
          try simp only [Act.put, List.setIfInBounds_toArray, List.set_cons_zero, List.set_cons_succ]
          refine wpAnyH_ready (rs := [5]) (by kernel_rfl) (by simp) ?_
          refine AllReadyH.cons (by simp only [List.getElem?_toArray, List.getElem?_cons_succ, List.getElem?_cons_zero]; rfl) (fun kC hkC => ?_) AllReadyH.nil
          go_simp
          refine (dkey_any hd p).mono ?_; rintro e w5 ⟨rfl, hw5⟩; subst hw5
          (try go_wp2_with fail)
          refine hkC.out _ _ (trivial) (fun hHeld => ?_)
          clear hkC kC
          try simp only [Act.put, List.setIfInBounds_toArray, List.set_cons_zero, List.set_cons_succ]
          refine wpAnyH_ready (rs := [6]) (by kernel_rfl) (by simp) ?_
          refine AllReadyH.cons (by simp only [List.getElem?_toArray, List.getElem?_cons_succ, List.getElem?_cons_zero]; rfl) (fun kC hkC => ?_) AllReadyH.nil
          go_simp
          refine (droom_any hd hrl p).mono ?_; (try dsimp only [askD]); rw [HRO.out]; rintro e w6 ⟨rfl, hk6⟩; have h6 := hd.no hk6
          (try go_wp2_with fail)
          refine hkC.out _ _ (trivial) (fun hHeld => ?_)
          clear hkC kC
          try simp only [Act.put, List.setIfInBounds_toArray, List.set_cons_zero, List.set_cons_succ]
          refine wpAnyH_take (i := 7) (v := ?_) (by simp only [List.getElem?_toArray, List.getElem?_cons_succ, List.getElem?_cons_zero]; rfl) (by kernel_rfl) (by kernel_rfl) (by kernel_rfl) (by exact fun _ _ _ h => h) (Or.inl ⟨by rfl, ?_⟩) hHeld ?_
          rotate_left
          · intro w hSw; (try dsimp only at hSw); go_simp; (try with_reducible rfl)
          try simp only [Act.put, List.setIfInBounds_toArray, List.set_cons_zero, List.set_cons_succ]
          refine wpAnyH_done (by kernel_rfl) ?_ _
          have k6 : Keeps (just Y) w w6 := (k4.drew).trans hk6.no
          clear hd hk6 k4 hHeld
          have c24 := h6.tx.c 24 (u := .int .i64 d.pl) rfl
          have f24 := h6.tx.f 24
          have hl6 := h6.tx.lt
          go_wp2_with fail
          go_ret
          rw [HR.out]
          exact ⟨rfl, (h6.set 24 (.int .i64 p) (d' := { askD d 2 with asked := askedL d.W p d.asked, pl := p }) rfl rfl rfl).kp (kY (k6.trans (keepsY w6 Y 24 (.int .i64 p))))⟩
        | false =>
          have HR := Lib.hid (show readD d p = abortD { askD d 2 with asked := askedL d.W p d.asked } 4 by unfold readD; rw [hid, hin, hhw, hro]; rfl)
          have HRO := Lib.hid hro
          clear hid hin hhw hro
          go_enter Tryz.func15, Tryz.ntmps15
          go_upto_region 9 with (first
            | (go_at_call 37; refine (dask_any h 2).mono ?_; rw [HID.out, HAR.out]; rintro e w1 ⟨rfl, h1, k1⟩)
            | (go_at_call 45; refine (din_any h1 p).mono ?_; rw [HIN.out]; rintro e w2 ⟨rfl, hk2⟩; have h2 := h1.no hk2; have k2 : Keeps (just Y) w w2 := k1.trans hk2.no)
            | (go_at_call 47; refine (dget_any h2 hwl p).mono ?_; (try dsimp only [askD]); rw [HHW.out]; rintro e w3 ⟨rfl, h3, k3⟩))
          have k4 : Keeps (just Y) w w3 := k2.trans k3
          clear h1 h2 k1 k2 k3 hk2
          have hd := h3.no ((Keeps.refl NoS w3).drew)
          clear h3
          refine wp_region_held_drew (S := (fun _ => True)) (by kernel_rfl) (trivial) (fun hHeld => ?_)
          refine wpAnyH_take (i := 0) (v := ?_) (by simp only [List.getElem?_toArray, List.getElem?_cons_succ, List.getElem?_cons_zero]; rfl) (by kernel_rfl) (by kernel_rfl) (by kernel_rfl) (by exact fun _ _ _ h => h) (Or.inl ⟨by rfl, ?_⟩) hHeld ?_
          rotate_left
          · intro w hSw; (try dsimp only at hSw); go_simp; (try with_reducible rfl)
          try simp only [Act.put, List.setIfInBounds_toArray, List.set_cons_zero, List.set_cons_succ]
          refine wpAnyH_take (i := 1) (v := ?_) (by simp only [List.getElem?_toArray, List.getElem?_cons_succ, List.getElem?_cons_zero]; rfl) (by kernel_rfl) (by kernel_rfl) (by kernel_rfl) (by exact fun _ _ _ h => h) (Or.inl ⟨by rfl, ?_⟩) hHeld ?_
          rotate_left
          · intro w hSw; (try dsimp only at hSw); go_simp; (try with_reducible rfl)
          try simp only [Act.put, List.setIfInBounds_toArray, List.set_cons_zero, List.set_cons_succ]
          refine wpAnyH_take (i := 2) (v := ?_) (by simp only [List.getElem?_toArray, List.getElem?_cons_succ, List.getElem?_cons_zero]; rfl) (by kernel_rfl) (by kernel_rfl) (by kernel_rfl) (by exact fun _ _ _ h => h) (Or.inl ⟨by rfl, ?_⟩) hHeld ?_
          rotate_left
          · intro w hSw; (try dsimp only at hSw); go_simp; (try with_reducible rfl)
          try simp only [Act.put, List.setIfInBounds_toArray, List.set_cons_zero, List.set_cons_succ]
          refine wpAnyH_take (i := 3) (v := ?_) (by simp only [List.getElem?_toArray, List.getElem?_cons_succ, List.getElem?_cons_zero]; rfl) (by kernel_rfl) (by kernel_rfl) (by kernel_rfl) (by exact fun _ _ _ h => h) (Or.inl ⟨by rfl, ?_⟩) hHeld ?_
          rotate_left
          · intro w hSw; (try dsimp only at hSw); go_simp; (try with_reducible rfl)
          try simp only [Act.put, List.setIfInBounds_toArray, List.set_cons_zero, List.set_cons_succ]
          refine wpAnyH_take (i := 4) (v := ?_) (by simp only [List.getElem?_toArray, List.getElem?_cons_succ, List.getElem?_cons_zero]; rfl) (by kernel_rfl) (by kernel_rfl) (by kernel_rfl) (by exact fun _ _ _ h => h) (Or.inl ⟨by rfl, ?_⟩) hHeld ?_
          rotate_left
          · intro w hSw; (try dsimp only at hSw); go_simp; (try with_reducible rfl)
          try simp only [Act.put, List.setIfInBounds_toArray, List.set_cons_zero, List.set_cons_succ]
          refine wpAnyH_ready (rs := [5]) (by kernel_rfl) (by simp) ?_
          refine AllReadyH.cons (by simp only [List.getElem?_toArray, List.getElem?_cons_succ, List.getElem?_cons_zero]; rfl) (fun kC hkC => ?_) AllReadyH.nil
          go_simp
          refine (dkey_any hd p).mono ?_; rintro e w5 ⟨rfl, hw5⟩; subst hw5
          (try go_wp2_with fail)
          refine hkC.out _ _ (trivial) (fun hHeld => ?_)
          clear hkC kC
          try simp only [Act.put, List.setIfInBounds_toArray, List.set_cons_zero, List.set_cons_succ]
          refine wpAnyH_ready (rs := [6]) (by kernel_rfl) (by simp) ?_
          refine AllReadyH.cons (by simp only [List.getElem?_toArray, List.getElem?_cons_succ, List.getElem?_cons_zero]; rfl) (fun kC hkC => ?_) AllReadyH.nil
          go_simp
          refine (droom_any hd hrl p).mono ?_; (try dsimp only [askD]); rw [HRO.out]; rintro e w6 ⟨rfl, hk6⟩; have h6 := hd.no hk6
          (try go_wp2_with fail)
          refine hkC.out _ _ (trivial) (fun hHeld => ?_)
          clear hkC kC
          try simp only [Act.put, List.setIfInBounds_toArray, List.set_cons_zero, List.set_cons_succ]
          refine wpAnyH_take (i := 7) (v := ?_) (by simp only [List.getElem?_toArray, List.getElem?_cons_succ, List.getElem?_cons_zero]; rfl) (by kernel_rfl) (by kernel_rfl) (by kernel_rfl) (by exact fun _ _ _ h => h) (Or.inl ⟨by rfl, ?_⟩) hHeld ?_
          rotate_left
          · intro w hSw; (try dsimp only at hSw); go_simp; (try with_reducible rfl)
          try simp only [Act.put, List.setIfInBounds_toArray, List.set_cons_zero, List.set_cons_succ]
          refine wpAnyH_done (by kernel_rfl) ?_ _
          have k6 : Keeps (just Y) w w6 := (k4.drew).trans hk6.no
          clear hd hk6 k4 hHeld
          go_wp2_with (go_at_call 46; refine (dabort_any h6 4).mono ?_; rintro e w7 ⟨rfl, h7, k7⟩)
          go_ret
          rw [HR.out]
          exact ⟨rfl, h7.kp (kY (k6.trans k7))⟩
set_option maxHeartbeats 4000000 in
set_option maxRecDepth 100000 in
theorem dWrite_any {w : World} {c Y : Nat} {u rv wv : Value} {M : MemS} {d : DxS} (h : DX w c u M Y rv wv d) (p x : Int) (hwl : d.W.length ≤ 32) : Calls Tryz.prog 17 #[.pointer (some ⟨Y, 0, none⟩), .int .i64 p, .int .i64 x] w fun e w' => e = .returned (.int .i64 (writeD d p x).2) ∧ DXP w w' c u M Y rv wv (writeD d p x).1 := by
  have c15 := h.tx.c 15 (u := .bool d.alive) rfl
  have c19 := h.tx.c 19 (u := .int .i64 d.job) rfl
  have hl := h.tx.lt
  cases q : d.alive <;> cases q2 : (d.job == 0)
  all_goals rw [q] at c15
  · have HR := Lib.hid (show writeD d p x = (d, 2) by unfold writeD; rw [show idleD d = false by unfold idleD; rw [q, q2]; rfl]; rfl)
    go_enter Tryz.func17, Tryz.ntmps17
    go_wp2_with fail
    go_ret
    rw [HR.out]
    exact ⟨rfl, h.self⟩
  · have HR := Lib.hid (show writeD d p x = (d, 2) by unfold writeD; rw [show idleD d = false by unfold idleD; rw [q, q2]; rfl]; rfl)
    go_enter Tryz.func17, Tryz.ntmps17
    go_wp2_with fail
    go_ret
    rw [HR.out]
    exact ⟨rfl, h.self⟩
  · have e2 : (d.job != 0) = true := by simpa using q2
    have HR := Lib.hid (show writeD d p x = (d, 2) by unfold writeD; rw [show idleD d = false by unfold idleD; rw [q, q2]; rfl]; rfl)
    go_enter Tryz.func17, Tryz.ntmps17
    go_wp2_with fail
    go_ret
    rw [HR.out]
    exact ⟨rfl, h.self⟩
  · have hid : idleD d = true := by unfold idleD; rw [q, q2]; rfl
    have e2 : (d.job != 0) = false := by simpa using q2
    clear q q2
    cases hin : inD p with
    | false =>
      have HR := Lib.hid (show writeD d p x = abortD d 4 by unfold writeD; rw [hid, hin]; rfl)
      have HIN := Lib.hid hin
      clear hid hin
      go_enter Tryz.func17, Tryz.ntmps17
      go_wp2_with (first
        | (go_at_call 45; refine (din_any h p).mono ?_; rw [HIN.out]; rintro e w2 ⟨rfl, hk2⟩; have h2 := h.no hk2)
        | (go_at_call 46; refine (dabort_any h2 4).mono ?_; rintro e w3 ⟨rfl, h3, k3⟩))
      go_ret
      rw [HR.out]
      exact ⟨rfl, h3.kp (kY (hk2.no.trans k3))⟩
    | true =>
      have HIN := Lib.hid hin
      cases hpo : putOk 32 d.W p with
      | true =>
        have HR := Lib.hid (show writeD d p x = ({ d with W := putW 32 d.W p x }, 1) by unfold writeD; rw [hid, hin, hpo]; rfl)
        have HPO := Lib.hid hpo
        clear hid hin hpo
        go_enter Tryz.func17, Tryz.ntmps17
        go_wp2_with (first
          | (go_at_call 45; refine (din_any h p).mono ?_; rw [HIN.out]; rintro e w2 ⟨rfl, hk2⟩; have h2 := h.no hk2)
          | (go_at_call 51; refine (dwput_any h2 hwl p x).mono ?_; rw [HPO.out]; rintro e w3 ⟨rfl, hP⟩; obtain ⟨rv', wv', h3, k3, g3⟩ := hP))
        go_ret
        rw [HR.out]
        exact ⟨rfl, DXP.then hk2.no ⟨rv', wv', h3, k3, g3⟩⟩
      | false =>
        have HR := Lib.hid (show writeD d p x = abortD { d with W := putW 32 d.W p x } 4 by unfold writeD; rw [hid, hin, hpo]; rfl)
        have HPO := Lib.hid hpo
        clear hid hin hpo
        go_enter Tryz.func17, Tryz.ntmps17
        go_wp2_with (first
          | (go_at_call 45; refine (din_any h p).mono ?_; rw [HIN.out]; rintro e w2 ⟨rfl, hk2⟩; have h2 := h.no hk2)
          | (go_at_call 51; refine (dwput_any h2 hwl p x).mono ?_; rw [HPO.out]; rintro e w3 ⟨rfl, hP⟩; obtain ⟨rv', wv', h3, k3, g3⟩ := hP)
          | (go_at_call 46; refine (dabort_any h3 4).mono ?_; rintro e w4 ⟨rfl, h4, k4⟩))
        go_ret
        rw [HR.out]
        exact ⟨rfl, DXP.then hk2.no ⟨rv', wv', h4, k3.trans' k4 (fun i hi e => by
          have e' : i = Y := e
          exact .inl (.inl e')), g3⟩⟩
set_option maxHeartbeats 4000000 in
set_option maxRecDepth 100000 in
theorem dCommit_any {w : World} {c Y : Nat} {u rv wv : Value} {M : MemS} {d : DxS} (h : DX w c u M Y rv wv d)  : Calls Tryz.prog 12 #[.pointer (some ⟨Y, 0, none⟩)] w fun e w' => e = .returned (.int .i64 (commitAskD d).2) ∧ DXP w w' c u M Y rv wv (commitAskD d).1 := by
  have hl := h.tx.lt
  cases hid : idleD d with
  | false =>
    have HR := Lib.hid (show commitAskD d = (d, 2) by unfold commitAskD; rw [hid]; rfl)
    have HID := Lib.hid hid
    have HAR := Lib.hid (show askR2 d 4 = d by unfold askR2; rw [hid]; rfl)
    clear hid
    go_enter Tryz.func12, Tryz.ntmps12
    go_wp2_with (go_at_call 37; refine (dask_any h 4).mono ?_; rw [HID.out, HAR.out]; rintro e w1 ⟨rfl, h1, k1⟩)
    go_ret
    rw [HR.out]
    exact ⟨rfl, h1.kp (kY k1)⟩
  | true =>
    have HR := Lib.hid (show commitAskD d = (askD d 4, 0) by unfold commitAskD; rw [hid]; rfl)
    have HID := Lib.hid hid
    have HAR := Lib.hid (show askR2 d 4 = askD d 4 by unfold askR2; rw [hid]; rfl)
    clear hid
    go_enter Tryz.func12, Tryz.ntmps12
    go_wp2_with (go_at_call 37; refine (dask_any h 4).mono ?_; rw [HID.out, HAR.out]; rintro e w1 ⟨rfl, h1, k1⟩)
    go_ret
    rw [HR.out]
    exact ⟨rfl, h1.kp (kY k1)⟩
/-- a new one -/
structure DxNew (w w' : World) (Y : Nat) (d : DxS) : Prop where
  tx : DxAt w' Y (.slice none 0 0) (.slice none 0 0) d
  hY : w.heap.size ≤ Y
  kp : Keeps NoS w w'
theorem DxNew.after {w w1 w' : World} {Y : Nat} {d : DxS} (k : Keeps NoS w w1) (h : DxNew w1 w' Y d) : DxNew w w' Y d := ⟨h.tx, Nat.le_trans k.size h.hY, k.trans h.kp⟩
theorem DxNew.made {w1 w2 : World} {c : Nat} {u : Value} {M : MemS} {Y : Nat} {d : DxS} (hm : RefAt w1 c u M) (h : DxNew w1 w2 Y d) : DX w2 c u M Y (.slice none 0 0) (.slice none 0 0) d := by
  refine ⟨h.tx, hm.keep h.kp (fun f => f) (fun _ _ f => f), fun g e e2 => ?_⟩
  have hg : g < w1.heap.size := by
    rcases e with e | e
    · rw [e]; exact blk_lt hm.hd
    · exact (hm.ow.lt g e).2
  rcases e2 with e2 | e2 | e2
  · have := h.hY; omega
  · simp [Value.ownBlock] at e2
  · simp [Value.ownBlock] at e2
theorem may16 : mayB ⟨3, 1, 3, 0, 4⟩ = true := by kernel_rfl
set_option maxHeartbeats 4000000 in
set_option maxRecDepth 100000 in
theorem dNew_any (th cl : Int) (hth : th = 0 ∨ th = 1 ∨ th = 2) (w : World) : Calls Tryz.prog 32 #[.bool true, .agg #[.int .i64 3, .int .i64 1, .int .i64 3, .int .i64 0, .int .i64 4], .int .i64 th, .int .i64 cl, .int .i64 32, .int .i64 32, .int .i64 1000] w fun e w' => ∃ Y, e = .returned (.pointer (some ⟨Y, 0, none⟩)) ∧ DxNew w w' Y (dx0 th cl) := by
  have e1 : decide (th < 0) = false := decide_eq_false (by omega)
  have e2 : decide (3 ≤ th) = false := decide_eq_false (by omega)
  have HMY := Lib.hid may16
  clear hth
  go_enter Tryz.func32, Tryz.ntmps32
  go_upto_region 1 with fail
  have mB := mapAt_new w 3 1 3 0 4 57
  have hk0 : Keeps NoS w (w.alloc (.cells #[.int .i64 3, .int .i64 1, .int .i64 3, .int .i64 0, .int .i64 4] 57)) := (Keeps.refl NoS w).alloc _
  have hBl : w.heap.size < (w.alloc (.cells #[.int .i64 3, .int .i64 1, .int .i64 3, .int .i64 0, .int .i64 4] 57)).heap.size := by simp
  obtain ⟨B, hB⟩ : ∃ B, w.heap.size = B := ⟨_, rfl⟩
  rw [hB] at mB hBl ⊢
  generalize w.alloc (.cells #[.int .i64 3, .int .i64 1, .int .i64 3, .int .i64 0, .int .i64 4] 57) = W at *
  have HM := Lib.hid (show ∀ w', Keeps NoS W w' → (w'.cell? ⟨B, 0, none⟩ = some (.int .i64 3) ∧ w'.cell? ⟨B, 1, none⟩ = some (.int .i64 1) ∧ w'.cell? ⟨B, 2, none⟩ = some (.int .i64 3) ∧ w'.cell? ⟨B, 3, none⟩ = some (.int .i64 0) ∧ w'.cell? ⟨B, 4, none⟩ = some (.int .i64 4)) from fun w' k => mB.keep k (fun f => f))
  clear mB
  obtain ⟨m0, m1, m2, m3, m4⟩ := HM.out _ (Keeps.refl NoS W)
  go_upto_region 3 with (go_at_call 77; refine (rmay_any ⟨3, 1, 3, 0, 4⟩ _).mono ?_; rw [HMY.out]; rintro e w1 ⟨rfl, hk1⟩; have hBl1 : B < w1.heap.size := Nat.lt_of_lt_of_le hBl hk1.size; obtain ⟨n0, n1, n2, n3, n4⟩ := HM.out _ hk1)
  clear m0 m1 m2 m3 m4
  have hkd := hk1.drew
  refine wp_region_held_drew (S := (fun w' => w'.cell? ⟨B, 0, none⟩ = some (.int .i64 3) ∧ w'.cell? ⟨B, 1, none⟩ = some (.int .i64 1) ∧ w'.cell? ⟨B, 2, none⟩ = some (.int .i64 3) ∧ w'.cell? ⟨B, 3, none⟩ = some (.int .i64 0) ∧ w'.cell? ⟨B, 4, none⟩ = some (.int .i64 4))) (by kernel_rfl) ((HM.out _ hkd)) (fun hHeld => ?_)
  refine wpAnyH_take (i := 0) (v := ?_) (by simp only [List.getElem?_toArray, List.getElem?_cons_succ, List.getElem?_cons_zero]; rfl) (by kernel_rfl) (by kernel_rfl) (by kernel_rfl) (by exact fun _ _ _ h => h) (Or.inl ⟨by rfl, ?_⟩) hHeld ?_
  rotate_left
  · intro w hSw; (try dsimp only at hSw); go_simp; (try with_reducible rfl)
  try simp only [Act.put, List.setIfInBounds_toArray, List.set_cons_zero, List.set_cons_succ]
  refine wpAnyH_take (i := 1) (v := ?_) (by simp only [List.getElem?_toArray, List.getElem?_cons_succ, List.getElem?_cons_zero]; rfl) (by kernel_rfl) (by kernel_rfl) (by kernel_rfl) (by exact fun _ _ _ h => h) (Or.inl ⟨by rfl, ?_⟩) hHeld ?_
  rotate_left
  · intro w hSw; (try dsimp only at hSw); go_simp; (try with_reducible rfl)
  try simp only [Act.put, List.setIfInBounds_toArray, List.set_cons_zero, List.set_cons_succ]
  refine wpAnyH_take (i := 2) (v := ?_) (by simp only [List.getElem?_toArray, List.getElem?_cons_succ, List.getElem?_cons_zero]; rfl) (by kernel_rfl) (by kernel_rfl) (by kernel_rfl) (by exact fun _ _ _ h => h) (Or.inl ⟨by rfl, ?_⟩) hHeld ?_
  rotate_left
  · intro w hSw; (try dsimp only at hSw); go_simp; (try with_reducible rfl)
  try simp only [Act.put, List.setIfInBounds_toArray, List.set_cons_zero, List.set_cons_succ]
  refine wpAnyH_take (i := 3) (v := ?_) (by simp only [List.getElem?_toArray, List.getElem?_cons_succ, List.getElem?_cons_zero]; rfl) (by kernel_rfl) (by kernel_rfl) (by kernel_rfl) (by exact fun _ _ _ h => h) (Or.inl ⟨by rfl, ?_⟩) hHeld ?_
  rotate_left
  · intro w hSw; (try dsimp only at hSw); go_simp; (try with_reducible rfl)
  try simp only [Act.put, List.setIfInBounds_toArray, List.set_cons_zero, List.set_cons_succ]
  refine wpAnyH_take (i := 4) (v := ?_) (by simp only [List.getElem?_toArray, List.getElem?_cons_succ, List.getElem?_cons_zero]; rfl) (by kernel_rfl) (by kernel_rfl) (by kernel_rfl) (by exact fun _ _ _ h => h) (Or.inl ⟨by rfl, ?_⟩) hHeld ?_
  rotate_left
  · intro w hSw; (try dsimp only at hSw); go_simp; (try with_reducible rfl)
  try simp only [Act.put, List.setIfInBounds_toArray, List.set_cons_zero, List.set_cons_succ]
  refine wpAnyH_take (i := 5) (v := ?_) (by simp only [List.getElem?_toArray, List.getElem?_cons_succ, List.getElem?_cons_zero]; rfl) (by kernel_rfl) (by kernel_rfl) (by kernel_rfl) (by exact fun _ _ _ h => h) (Or.inl ⟨by rfl, ?_⟩) hHeld ?_
  rotate_left
  · intro w hSw; (try dsimp only at hSw); go_simp; (try with_reducible rfl)
  try simp only [Act.put, List.setIfInBounds_toArray, List.set_cons_zero, List.set_cons_succ]
  refine wpAnyH_take (i := 8) (v := ?_) (by simp only [List.getElem?_toArray, List.getElem?_cons_succ, List.getElem?_cons_zero]; rfl) (by kernel_rfl) (by kernel_rfl) (by kernel_rfl) (by exact fun _ _ _ h => h) (Or.inl ⟨by rfl, ?_⟩) hHeld ?_
  rotate_left
  · intro w hSw; (try dsimp only at hSw); go_simp; (try with_reducible rfl)
  try simp only [Act.put, List.setIfInBounds_toArray, List.set_cons_zero, List.set_cons_succ]
  refine wpAnyH_ready (rs := [6]) (by kernel_rfl) (by simp) ?_
  refine AllReadyH.cons (by simp only [List.getElem?_toArray, List.getElem?_cons_succ, List.getElem?_cons_zero]; rfl) (fun kC hkC => ?_) AllReadyH.nil
  go_simp
  refine (cap_any 32 _).mono ?_; rintro e w2 ⟨rfl, hw2⟩; subst hw2
  (try go_wp2_with fail)
  refine hkC.out _ _ ((HM.out _ hkd)) (fun hHeld => ?_)
  clear hkC kC
  try simp only [Act.put, List.setIfInBounds_toArray, List.set_cons_zero, List.set_cons_succ]
  refine wpAnyH_take (i := 7) (v := ?_) (by simp only [List.getElem?_toArray, List.getElem?_cons_succ, List.getElem?_cons_zero]; rfl) (by kernel_rfl) (by kernel_rfl) (by kernel_rfl) (by exact fun _ _ _ h => h) (Or.inl ⟨by rfl, ?_⟩) hHeld ?_
  rotate_left
  · intro w hSw; (try dsimp only at hSw); go_simp; (try with_reducible rfl)
  try simp only [Act.put, List.setIfInBounds_toArray, List.set_cons_zero, List.set_cons_succ]
  refine wpAnyH_ready (rs := [9]) (by kernel_rfl) (by simp) ?_
  refine AllReadyH.cons (by simp only [List.getElem?_toArray, List.getElem?_cons_succ, List.getElem?_cons_zero]; rfl) (fun kC hkC => ?_) AllReadyH.nil
  go_simp
  refine (cap_any 32 _).mono ?_; rintro e w2 ⟨rfl, hw2⟩; subst hw2
  (try go_wp2_with fail)
  refine hkC.out _ _ ((HM.out _ hkd)) (fun hHeld => ?_)
  clear hkC kC
  try simp only [Act.put, List.setIfInBounds_toArray, List.set_cons_zero, List.set_cons_succ]
  refine wpAnyH_take (i := 10) (v := ?_) (by simp only [List.getElem?_toArray, List.getElem?_cons_succ, List.getElem?_cons_zero]; rfl) (by kernel_rfl) (by kernel_rfl) (by kernel_rfl) (by exact fun _ _ _ h => h) (Or.inl ⟨by rfl, ?_⟩) hHeld ?_
  rotate_left
  · intro w hSw; (try dsimp only at hSw); go_simp; (try with_reducible rfl)
  try simp only [Act.put, List.setIfInBounds_toArray, List.set_cons_zero, List.set_cons_succ]
  refine wpAnyH_take (i := 11) (v := ?_) (by simp only [List.getElem?_toArray, List.getElem?_cons_succ, List.getElem?_cons_zero]; rfl) (by kernel_rfl) (by kernel_rfl) (by kernel_rfl) (by exact fun _ _ _ h => h) (Or.inl ⟨by rfl, ?_⟩) hHeld ?_
  rotate_left
  · intro w hSw; (try dsimp only at hSw); go_simp; (try with_reducible rfl)
  try simp only [Act.put, List.setIfInBounds_toArray, List.set_cons_zero, List.set_cons_succ]
  refine wpAnyH_ready (rs := [12]) (by kernel_rfl) (by simp) ?_
  refine AllReadyH.cons (by simp only [List.getElem?_toArray, List.getElem?_cons_succ, List.getElem?_cons_zero]; rfl) (fun kC hkC => ?_) AllReadyH.nil
  go_simp
  refine hkC.out _ _ ((HM.out _ (hkd.alloc _))) (fun hHeld => ?_)
  clear hkC kC
  try simp only [Act.put, List.setIfInBounds_toArray, List.set_cons_zero, List.set_cons_succ]
  refine wpAnyH_take (i := 13) (v := ?_) (by simp only [List.getElem?_toArray, List.getElem?_cons_succ, List.getElem?_cons_zero]; rfl) (by kernel_rfl) (by kernel_rfl) (by kernel_rfl) (by exact fun _ _ _ h => h) (Or.inl ⟨by rfl, ?_⟩) hHeld ?_
  rotate_left
  · intro w hSw; (try dsimp only at hSw); go_simp; (try with_reducible rfl)
  try simp only [Act.put, List.setIfInBounds_toArray, List.set_cons_zero, List.set_cons_succ]
  refine wpAnyH_done (by kernel_rfl) ?_ _
  clear hHeld
  go_wp2_with fail
  go_ret
  have kk := (Keeps.refl NoS w1.drew).alloc (.cells (dxC (dx0 th cl) (.slice none 0 0) (.slice none 0 0)) 77)
  have hs0 := hk0.size; have hs1 := hk1.size
  refine ⟨w1.heap.size, rfl, ⟨heap_alloc_new _ _, World.ownsRow_nil _ _ _ _, World.ownsRow_nil _ _ _ _, fun g e => by simp [Value.ownBlock] at e, fun g e => by simp [Value.ownBlock] at e, fun x hx => absurd hx (by show ¬ x ∈ ([] : List (Int × Int)); simp)⟩, by omega, (hk0.trans hkd).trans kk⟩
theorem ref16_any (w : World) : Calls Tryz.prog 28 #[.agg #[.int .i64 3, .int .i64 1, .int .i64 3, .int .i64 0, .int .i64 4]] w fun e w' => e = .returned (.agg #[.int .i64 3, .int .i64 1, .int .i64 3, .int .i64 0, .int .i64 4]) ∧ Keeps NoS w w' := ref_any ⟨3, 1, 3, 0, 4⟩ w
set_option maxRecDepth 100000 in
theorem dRef_any (th cl : Int) (hth : th = 0 ∨ th = 1 ∨ th = 2) (w : World) : Calls Tryz.prog 8 #[.int .i64 th, .int .i64 cl] w fun e w' => ∃ Y, e = .returned (.pointer (some ⟨Y, 0, none⟩)) ∧ DxNew w w' Y (dx0 th cl) := by
  go_enter Tryz.func8, Tryz.ntmps8
  go_wp2_with (first
    | (go_at_call 5; refine (map16_any _).mono ?_; rintro e w1 ⟨rfl, hk1⟩)
    | (go_at_call 28; refine (ref16_any _).mono ?_; rintro e w2 ⟨rfl, hk2⟩)
    | (go_at_call 32; refine (dNew_any th cl hth _).mono ?_; rintro e w3 ⟨Y, rfl, hn⟩))
  go_ret
  exact ⟨Y, rfl, hn.after (hk1.trans hk2)⟩
end Go.Proofs.YtlcmnhfiggkmnaaGreat
