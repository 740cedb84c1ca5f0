/- Package norec: Begin, Read, Write. -/
import Derived.Test.YtfmamedkiaimpaaTxH
import Derived.Test.YtfmamedkiaimpaaHash1
namespace Go.Proofs.Ytfmamedkiaimpaa
open Go.RowKit
theorem wclear_any (a : Nat) (v : Value) (room asked : Int) (l : List (Int × Int)) (w : World) (hs : WrAt w a v room l asked) : Calls Try.prog 62 #[.pointer (some ⟨a, 0, none⟩)] w fun e w' => e = .returned (.tuple #[]) ∧ WrAt w' a (.slice none 0 0) room [] 0 ∧ Keeps (own2 a v) w w' := by
  obtain ⟨_, c1, c2, c3⟩ := hs.cells
  have f1 := blk_free hs.hd 1; have f2 := blk_free hs.hd 2; have f3 := blk_free hs.hd 3
  have hl := blk_lt hs.hd
  obtain ⟨p, c, rfl⟩ := hs.slice
  have H : WrAt (((w.setCell ⟨a, 1, none⟩ (.slice none 0 0)).setCell ⟨a, 2, none⟩ (.int .u64 0)).setCell ⟨a, 3, none⟩ (.int .i64 0)) a (.slice none 0 0) room [] 0 := ⟨by rw [blk_set (blk_set (blk_set hs.hd 1 _) 2 _) 3 _]; rfl, World.ownsRow_nil _ _ _ _, by simp [Value.ownBlock], by simp⟩
  have H := Lib.hid H
  go_enter Try.func62, Try.ntmps62
  go_wp2
  go_end0
  exact ⟨rfl, H.out, (((Keeps.refl _ _).setCell (p := ⟨a, 1, none⟩) (fun _ => .inl rfl) _).setCell (p := ⟨a, 2, none⟩) (fun _ => .inl rfl) _).setCell (p := ⟨a, 3, none⟩) (fun _ => .inl rfl) _⟩
/-- what is watched is let go -/
theorem NX.vnil {w : World} {a X ra wa : Nat} {v rv wv vv : Value} {M : MemS} {t : TxS} (h : NX w a v M X ra wa rv wv vv t) : NX (w.setCell ⟨X, 9, none⟩ (.slice none 0 0)) a v M X ra wa rv wv (.slice none 0 0) { t with V := [] } := by
  have T := h.tx
  have kk := keepsX w X 9 (.slice none 0 0)
  refine ⟨⟨blk_set T.hd 9 (.slice none 0 0), T.rs.keep kk (fun e => T.d1 (by have e' : ra = X := e; exact e'.symm)) (fun g e e2 => (T.o1 g e).1 e2), T.ws.imp fun _ z => z.keep kk (fun e => T.d2 (by have e' : wa = X := e; exact e'.symm)) (fun g e e2 => (T.o2 g e).1 e2), World.ownsRow_nil _ _ _ _, T.d1, T.d2, T.d3, fun g e => ⟨(T.o1 g e).1, (T.o1 g e).2.1, (T.o1 g e).2.2.1, fun z => by simp [Value.ownBlock] at z⟩, fun g e => ⟨(T.o2 g e).1, (T.o2 g e).2.1, fun z => by simp [Value.ownBlock] at z⟩, fun g e => by simp [Value.ownBlock] at e⟩,
    h.mm.keep kk (fun e => h.ap a (.inl rfl) (.inl (by have e' : a = X := e; exact e'))) (fun g hg e => h.ap g (.inr hg) (.inl (by have e' : g = X := e; exact e'))), fun g e e2 => h.ap g e ?_⟩
  rcases e2 with z | z | z | z | z | z
  · exact .inl z
  · exact .inr (.inl z)
  · exact .inr (.inr (.inl z))
  · exact .inr (.inr (.inr (.inl z)))
  · exact .inr (.inr (.inr (.inr (.inl z))))
  · simp [Value.ownBlock] at z
def beginT (t : TxS) : TxS × Int := if t.job = 0 ∧ t.life ≠ 1 then (askT { t with life := 1, took := false, phased := false, value := 0, cause := 0, made := 0, R := [], W := [], V := [] } 1 0, 0) else (t, 2)
def readT (t : TxS) (pl : Int) : TxS × Int :=
  if (t.life == 1) && (t.job == 0) then (if hasW t.W pl then ({ t with value := getW t.W pl }, 1) else if hashV ⟨3, 1, 3, 0, 4⟩ pl < 0 ∨ roomFor 32 t.R pl = false then abortT { t with pl := pl } 4 else (askT { t with pl := pl } 2 0, 0))
  else (t, 2)
def writeT (t : TxS) (pl x : Int) : TxS × Int :=
  if (t.life == 1) && (t.job == 0) then (if hashV ⟨3, 1, 3, 0, 4⟩ pl < 0 then abortT t 4 else if putOk 32 t.W pl then ({ t with W := putW 32 t.W pl x }, 1) else abortT { t with W := putW 32 t.W pl x } 4)
  else (t, 2)
theorem NX.wget {w : World} {a X ra wa : Nat} {v rv wv vv : Value} {M : MemS} {t : TxS} (h : NX w a v M X ra wa rv wv vv t) (k : Int) : Calls Try.prog 57 #[.pointer (some ⟨wa, 0, none⟩), .int .i64 k] w fun e w' => e = .returned (.tuple #[.int .i64 (getW t.W k), .bool (hasW t.W k)]) ∧ NX w' a v M X ra wa rv wv vv t ∧ Keeps (just wa) w w' := by
  obtain ⟨asked, hs⟩ := h.tx.ws
  refine (wget_any wa wv 32 asked t.W k w hs).mono fun e w' ⟨he, hw, hk⟩ => ⟨he, ?_, hk.mono fun g e => e.symm⟩
  have T := h.tx
  exact ⟨⟨hk.blk T.hd (fun e => T.d2 e.symm), T.rs.keep hk (fun e => T.d3 e.symm) (fun g e e2 => (T.o1 g e).2.1 e2.symm), ⟨_, hw⟩, hk.owns T.vs (fun g e e2 => (T.o3 g e).2.2 e2.symm), T.d1, T.d2, T.d3, T.o1, T.o2, T.o3⟩,
    h.mm.keep hk (fun e => h.ap a (.inl rfl) (.inr (.inr (.inl e.symm)))) (fun g hg e => h.ap g (.inr hg) (.inr (.inr (.inl e.symm)))), h.ap⟩
theorem NX.wput {w : World} {a X ra wa : Nat} {v rv wv vv : Value} {M : MemS} {t : TxS} (h : NX w a v M X ra wa rv wv vv t) (k x : Int) (hs : t.W.length < 4096) : Calls Try.prog 82 #[.pointer (some ⟨wa, 0, none⟩), .int .i64 k, .int .i64 x] w fun e w' => e = .returned (.bool (putOk 32 t.W k)) ∧ NXP w w' a v M X ra wa rv wv vv { t with W := putW 32 t.W k x } := by
  obtain ⟨asked, hw⟩ := h.tx.ws
  exact (wput_any wa wv 32 asked t.W k x w hw hs).mono fun e w' ⟨he, v', h1, h2, h3⟩ => ⟨he, h.wset h1 h2 h3⟩
theorem kw_nx {X ra wa : Nat} {rv wv vv : Value} {a : Nat} {v : Value} {w w' : World} (k : Keeps (just wa) w w') : Keeps (fun g => txO X ra wa rv wv vv g ∨ own2m a v g) w w' := k.mono fun g e => .inl (.inr (.inr (.inl e)))

set_option maxHeartbeats 4000000 in
set_option maxRecDepth 100000 in
theorem xBegin_any {w : World} {a X ra wa : Nat} {v rv wv vv : Value} {M : MemS} {t : TxS} (h : NX w a v M X ra wa rv wv vv t)  : Calls Try.prog 29 #[.pointer (some ⟨X, 0, none⟩)] w fun e w' => e = .returned (.int .i64 (beginT t).2) ∧ NXP w w' a v M X ra wa rv wv vv (beginT t).1 := by
  have hl := h.tx.lt
  have c11 := h.tx.c 11 (u := .int .i64 t.job) rfl
  have c10 := h.tx.c 10 (u := .int .i64 t.life) rfl
  by_cases q : t.job = 0 ∧ t.life ≠ 1
  · have HRES := Lib.hid (show beginT t = (askT { t with life := 1, took := false, phased := false, value := 0, cause := 0, made := 0, R := [], W := [], V := [] } 1 0, 0) by unfold beginT; rw [if_pos q])
    have e0 : (t.job != 0) = false := by simpa using q.1
    have e1 : (t.life == 1) = false := by simpa using q.2
    clear q
    go_enter Try.func29, Try.ntmps29
    have c7 := h.tx.c 7 (u := .pointer (some ⟨ra, 0, none⟩)) rfl
    go_upto_region 4 with (go_at_call 61; refine (rclear_any ra rv 32 t.R _ h.tx.rs).mono ?_; rintro e w1 ⟨rfl, hs, hk⟩)
    obtain ⟨rv1, wv1, vv1, h1, k1, g1⟩ := h.rset hs hk (fun g e => by simp [Value.ownBlock] at e)
    clear c7 c10 c11 hl hs hk
    have c8 := h1.tx.c 8 (u := .pointer (some ⟨wa, 0, none⟩)) rfl
    have hl := h1.tx.lt
    obtain ⟨asked, hws⟩ := h1.tx.ws
    go_upto_region 5 with (go_at_call 62; refine (wclear_any wa wv1 32 asked _ _ hws).mono ?_; rintro e w2 ⟨rfl, hs, hk⟩)
    obtain ⟨rv2, wv2, vv2, h2, k2, g2⟩ := h1.wset hs hk (fun g e => by simp [Value.ownBlock] at e)
    clear c8 hl hs hk hws
    obtain ⟨vp, vc, hvs⟩ := h2.tx.vsl
    subst hvs
    have c9 := h2.tx.c 9 (u := .slice vp t.V.length vc) rfl
    have f9 := h2.tx.f 9
    have hl := h2.tx.lt
    have h3 := h2.vnil
    have k3 := keepsX w2 X 9 (.slice none 0 0)
    go_upto_region 6 with fail
    generalize w2.setCell ⟨X, 9, none⟩ (.slice none 0 0) = w3 at *
    clear c9 f9 hl
    have f10 := h3.tx.f 10
    have f21 := h3.tx.f 21
    have f22 := h3.tx.f 22
    have c10 := h3.tx.c 10 (u := .int .i64 t.life) rfl
    have c21 := h3.tx.c 21 (u := .bool t.took) rfl
    have c22 := h3.tx.c 22 (u := .bool t.phased) rfl
    have hl := h3.tx.lt
    have h4 := ((h3.set 10 (.int .i64 1) (t' := { t with life := 1, R := [], W := [], V := [] }) rfl rfl rfl rfl).set 21 (.bool false) (t' := { t with life := 1, took := false, R := [], W := [], V := [] }) rfl rfl rfl rfl).set 22 (.bool false) (t' := { t with life := 1, took := false, phased := false, R := [], W := [], V := [] }) rfl rfl rfl rfl
    have k4 := k3.trans (((keepsX w3 X 10 (.int .i64 1)).trans (keepsX _ X 21 (.bool false))).trans (keepsX _ X 22 (.bool false)))
    go_upto_region 7 with fail
    generalize ((w3.setCell ⟨X, 10, none⟩ (.int .i64 1)).setCell ⟨X, 21, none⟩ (.bool false)).setCell ⟨X, 22, none⟩ (.bool false) = w4 at *
    clear c10 c21 c22 f10 f21 f22 hl h3 k3
    have f17 := h4.tx.f 17
    have f18 := h4.tx.f 18
    have f20 := h4.tx.f 20
    have c17 := h4.tx.c 17 (u := .int .i64 t.value) rfl
    have c18 := h4.tx.c 18 (u := .int .i64 t.cause) rfl
    have c20 := h4.tx.c 20 (u := .int .i64 t.made) rfl
    have hl := h4.tx.lt
    have h5 := ((h4.set 17 (.int .i64 0) (t' := { t with life := 1, took := false, phased := false, value := 0, R := [], W := [], V := [] }) rfl rfl rfl rfl).set 18 (.int .i64 0) (t' := { t with life := 1, took := false, phased := false, value := 0, cause := 0, R := [], W := [], V := [] }) rfl rfl rfl rfl).set 20 (.int .i64 0) (t' := { t with life := 1, took := false, phased := false, value := 0, cause := 0, made := 0, R := [], W := [], V := [] }) rfl rfl rfl rfl
    have k5 := k4.trans (((keepsX w4 X 17 (.int .i64 0)).trans (keepsX _ X 18 (.int .i64 0))).trans (keepsX _ X 20 (.int .i64 0)))
    go_upto_region 8 with fail
    generalize ((w4.setCell ⟨X, 17, none⟩ (.int .i64 0)).setCell ⟨X, 18, none⟩ (.int .i64 0)).setCell ⟨X, 20, none⟩ (.int .i64 0) = w5 at *
    clear c17 c18 c20 f17 f18 f20 hl h4 k4
    go_wp2_with (go_at_call 60; refine (xask_any h5 1 0).mono ?_; rintro e w6 ⟨rfl, h6, k6⟩)
    go_ret
    rw [HRES.out]
    refine ⟨rfl, NXP.then k1 g1 (NXP.then k2 g2 ?_)⟩
    exact ⟨rv2, wv2, .slice none 0 0, h6, (k5.trans k6).mono (fun g e => .inl (.inl e)), fun g e => by
      rcases e with z | z | z | z | z | z
      · exact .inl (.inl z)
      · exact .inl (.inr (.inl z))
      · exact .inl (.inr (.inr (.inl z)))
      · exact .inl (.inr (.inr (.inr (.inl z))))
      · exact .inl (.inr (.inr (.inr (.inr (.inl z)))))
      · simp [Value.ownBlock] at z⟩
  · rw [show beginT t = (t, 2) by unfold beginT; rw [if_neg q]]
    by_cases q0 : t.job = 0
    · have q1 : t.life = 1 := Classical.byContradiction fun e => q ⟨q0, e⟩
      have e0 : (t.job != 0) = false := by simpa using q0
      have e1 : (t.life == 1) = true := by simpa using q1
      clear q q0 q1
      go_enter Try.func29, Try.ntmps29
      go_wp2_with fail
      go_ret
      exact ⟨rfl, h.self⟩
    · have e0 : (t.job != 0) = true := by simpa using q0
      clear q q0
      go_enter Try.func29, Try.ntmps29
      go_wp2_with fail
      go_ret
      exact ⟨rfl, h.self⟩
set_option maxHeartbeats 4000000 in
set_option maxRecDepth 100000 in
theorem xRead_any {w : World} {a X ra wa : Nat} {v rv wv vv : Value} {M : MemS} {t : TxS} (h : NX w a v M X ra wa rv wv vv t) (pl : Int) : Calls Try.prog 28 #[.pointer (some ⟨X, 0, none⟩), .int .i64 pl] w fun e w' => e = .returned (.int .i64 (readT t pl).2) ∧ NXP w w' a v M X ra wa rv wv vv (readT t pl).1 := by
  have hl := h.tx.lt
  cases q : ((t.life == 1) && (t.job == 0)) with
  | false =>
    rw [show readT t pl = (t, 2) by unfold readT; rw [q]; rfl]
    have HQ := Lib.hid q
    clear q
    go_enter Try.func28, Try.ntmps28
    go_wp2_with (go_at_call 56; refine (xidle_any h).mono ?_; rw [HQ.out]; rintro e w1 ⟨rfl, hw⟩; subst hw)
    go_ret
    exact ⟨rfl, h.self⟩
  | true =>
    have HQ := Lib.hid q
    have c8 := h.tx.c 8 (u := .pointer (some ⟨wa, 0, none⟩)) rfl
    obtain ⟨gv, hgv⟩ : ∃ z, getW t.W pl = z := ⟨_, rfl⟩
    obtain ⟨hv, hhv⟩ : ∃ z, hashV ⟨3, 1, 3, 0, 4⟩ pl = z := ⟨_, rfl⟩
    obtain ⟨rf, hrf⟩ : ∃ z, roomFor 32 t.R pl = z := ⟨_, rfl⟩
    have HGV := Lib.hid hgv; have HHV := Lib.hid hhv; have HRF := Lib.hid hrf
    have hr2 : readT t pl = (if hasW t.W pl then ({ t with value := gv }, 1) else if hv < 0 ∨ rf = false then abortT { t with pl := pl } 4 else (askT { t with pl := pl } 2 0, 0)) := by unfold readT; rw [q, hgv, hhv, hrf]; rfl
    clear q hgv hhv hrf
    cases hw : hasW t.W pl with
    | true =>
      have HRES := Lib.hid (show readT t pl = ({ t with value := gv }, 1) by rw [hr2, hw]; rfl)
      have HHW := Lib.hid hw
      clear hr2 hw
      go_enter Try.func28, Try.ntmps28
      go_upto_region 5 with (first
        | (go_at_call 56; refine (xidle_any h).mono ?_; rw [HQ.out]; rintro e w1 ⟨rfl, hw⟩; subst hw)
        | (go_at_call 57; refine (h.wget pl).mono ?_; rw [HGV.out, HHW.out]; rintro e w2 ⟨rfl, h2, k2⟩))
      have f17 := h2.tx.f 17; have c17 := h2.tx.c 17 (u := .int .i64 t.value) rfl
      clear c8 hl
      have hl := h2.tx.lt
      go_wp2_with fail
      go_ret
      rw [HRES.out]
      exact ⟨rfl, NXP.then (kw_nx k2) (fun g e => .inl e) (h2.kx (keepsX w2 X 17 (.int .i64 gv)) (h2.set 17 (.int .i64 gv) rfl rfl rfl rfl))⟩
    | false =>
      have HHW := Lib.hid hw
      have hr3 : readT t pl = (if hv < 0 ∨ rf = false then abortT { t with pl := pl } 4 else (askT { t with pl := pl } 2 0, 0)) := by rw [hr2, hw]; rfl
      clear hr2 hw
      by_cases q1 : hv < 0
      · have HRES := Lib.hid (show readT t pl = abortT { t with pl := pl } 4 by rw [hr3, if_pos (.inl q1)])
        have eq1 : decide (hv < 0) = true := decide_eq_true q1
        clear hr3 q1
        go_enter Try.func28, Try.ntmps28
        go_upto_region 7 with (first
          | (go_at_call 56; refine (xidle_any h).mono ?_; rw [HQ.out]; rintro e w1 ⟨rfl, hw⟩; subst hw)
          | (go_at_call 57; refine (h.wget pl).mono ?_; rw [HGV.out, HHW.out]; rintro e w2 ⟨rfl, h2, k2⟩))
        have f14 := h2.tx.f 14; have c14 := h2.tx.c 14 (u := .int .i64 t.pl) rfl
        clear c8 hl
        have hl := h2.tx.lt
        have h3 := h2.set 14 (.int .i64 pl) (t' := { t with pl := pl }) rfl rfl rfl rfl
        have k3 := keepsX w2 X 14 (.int .i64 pl)
        go_upto_region 8 with fail
        generalize w2.setCell ⟨X, 14, none⟩ (.int .i64 pl) = w3 at *
        clear f14 c14 hl
        obtain ⟨m0, m1, m2, m3, m4⟩ := h3.tx.mp
        have c7 := h3.tx.c 7 (u := .pointer (some ⟨ra, 0, none⟩)) rfl
        have hl := h3.tx.lt
        go_wp2_with (first
          | (go_at_call 58; refine (hash_lit 3 1 3 0 4 pl hv HHV.out _).mono ?_; rintro e w4 ⟨rfl, hk4⟩; have h4 := h3.no hk4; have c7' := h4.tx.c 7 (u := .pointer (some ⟨ra, 0, none⟩)) rfl; have c8' := h4.tx.c 8 (u := .pointer (some ⟨wa, 0, none⟩)) rfl)
          | (go_at_call 47; refine (xabort_any h4 4).mono ?_; rintro e w6 ⟨rfl, h6, k6⟩))
        go_ret
        rw [HRES.out]
        exact ⟨rfl, NXP.then (kw_nx k2) (fun g e => .inl e) (h2.kx ((k3.trans hk4.no).trans k6) h6)⟩
      · have eq1 : decide (hv < 0) = false := decide_eq_false q1
        cases rf with
        | false =>
          have HRES := Lib.hid (show readT t pl = abortT { t with pl := pl } 4 by rw [hr3, if_pos (.inr rfl)])
          clear hr3 q1
          go_enter Try.func28, Try.ntmps28
          go_upto_region 7 with (first
            | (go_at_call 56; refine (xidle_any h).mono ?_; rw [HQ.out]; rintro e w1 ⟨rfl, hw⟩; subst hw)
            | (go_at_call 57; refine (h.wget pl).mono ?_; rw [HGV.out, HHW.out]; rintro e w2 ⟨rfl, h2, k2⟩))
          have f14 := h2.tx.f 14; have c14 := h2.tx.c 14 (u := .int .i64 t.pl) rfl
          clear c8 hl
          have hl := h2.tx.lt
          have h3 := h2.set 14 (.int .i64 pl) (t' := { t with pl := pl }) rfl rfl rfl rfl
          have k3 := keepsX w2 X 14 (.int .i64 pl)
          go_upto_region 8 with fail
          generalize w2.setCell ⟨X, 14, none⟩ (.int .i64 pl) = w3 at *
          clear f14 c14 hl
          obtain ⟨m0, m1, m2, m3, m4⟩ := h3.tx.mp
          have c7 := h3.tx.c 7 (u := .pointer (some ⟨ra, 0, none⟩)) rfl
          have hl := h3.tx.lt
          go_wp2_with (first
            | (go_at_call 58; refine (hash_lit 3 1 3 0 4 pl hv HHV.out _).mono ?_; rintro e w4 ⟨rfl, hk4⟩; have h4 := h3.no hk4; have c7' := h4.tx.c 7 (u := .pointer (some ⟨ra, 0, none⟩)) rfl; have c8' := h4.tx.c 8 (u := .pointer (some ⟨wa, 0, none⟩)) rfl)
            | (go_at_call 59; refine (rroom_any ra rv 32 t.R pl _ h4.tx.rs).mono ?_; rw [HRF.out]; rintro e w5 ⟨rfl, hk5⟩; have h5 := h4.no hk5)
            | (go_at_call 47; refine (xabort_any h5 4).mono ?_; rintro e w6 ⟨rfl, h6, k6⟩))
          go_ret
          rw [HRES.out]
          exact ⟨rfl, NXP.then (kw_nx k2) (fun g e => .inl e) (h2.kx (((k3.trans hk4.no).trans hk5.no).trans k6) h6)⟩
        | true =>
          have HRES := Lib.hid (show readT t pl = (askT { t with pl := pl } 2 0, 0) by rw [hr3, if_neg (by simp [q1])])
          clear hr3 q1
          go_enter Try.func28, Try.ntmps28
          go_upto_region 7 with (first
            | (go_at_call 56; refine (xidle_any h).mono ?_; rw [HQ.out]; rintro e w1 ⟨rfl, hw⟩; subst hw)
            | (go_at_call 57; refine (h.wget pl).mono ?_; rw [HGV.out, HHW.out]; rintro e w2 ⟨rfl, h2, k2⟩))
          have f14 := h2.tx.f 14; have c14 := h2.tx.c 14 (u := .int .i64 t.pl) rfl
          clear c8 hl
          have hl := h2.tx.lt
          have h3 := h2.set 14 (.int .i64 pl) (t' := { t with pl := pl }) rfl rfl rfl rfl
          have k3 := keepsX w2 X 14 (.int .i64 pl)
          go_upto_region 8 with fail
          generalize w2.setCell ⟨X, 14, none⟩ (.int .i64 pl) = w3 at *
          clear f14 c14 hl
          obtain ⟨m0, m1, m2, m3, m4⟩ := h3.tx.mp
          have c7 := h3.tx.c 7 (u := .pointer (some ⟨ra, 0, none⟩)) rfl
          have hl := h3.tx.lt
          go_wp2_with (first
            | (go_at_call 58; refine (hash_lit 3 1 3 0 4 pl hv HHV.out _).mono ?_; rintro e w4 ⟨rfl, hk4⟩; have h4 := h3.no hk4; have c7' := h4.tx.c 7 (u := .pointer (some ⟨ra, 0, none⟩)) rfl; have c8' := h4.tx.c 8 (u := .pointer (some ⟨wa, 0, none⟩)) rfl)
            | (go_at_call 59; refine (rroom_any ra rv 32 t.R pl _ h4.tx.rs).mono ?_; rw [HRF.out]; rintro e w5 ⟨rfl, hk5⟩; have h5 := h4.no hk5)
            | (go_at_call 60; refine (xask_any h5 2 0).mono ?_; rintro e w6 ⟨rfl, h6, k6⟩))
          go_ret
          rw [HRES.out]
          exact ⟨rfl, NXP.then (kw_nx k2) (fun g e => .inl e) (h2.kx (((k3.trans hk4.no).trans hk5.no).trans k6) h6)⟩
set_option maxHeartbeats 4000000 in
set_option maxRecDepth 100000 in
theorem xWrite_any {w : World} {a X ra wa : Nat} {v rv wv vv : Value} {M : MemS} {t : TxS} (h : NX w a v M X ra wa rv wv vv t) (pl x : Int) (hsm : t.W.length < 4096) : Calls Try.prog 66 #[.pointer (some ⟨X, 0, none⟩), .int .i64 pl, .int .i64 x] w fun e w' => e = .returned (.int .i64 (writeT t pl x).2) ∧ NXP w w' a v M X ra wa rv wv vv (writeT t pl x).1 := by
  have hl := h.tx.lt
  cases q : ((t.life == 1) && (t.job == 0)) with
  | false =>
    rw [show writeT t pl x = (t, 2) by unfold writeT; rw [q]; rfl]
    have HQ := Lib.hid q
    clear q
    go_enter Try.func66, Try.ntmps66
    go_wp2_with (go_at_call 56; refine (xidle_any h).mono ?_; rw [HQ.out]; rintro e w1 ⟨rfl, hw⟩; subst hw)
    go_ret
    exact ⟨rfl, h.self⟩
  | true =>
    have HQ := Lib.hid q
    have c8 := h.tx.c 8 (u := .pointer (some ⟨wa, 0, none⟩)) rfl
    obtain ⟨m0, m1, m2, m3, m4⟩ := h.tx.mp
    obtain ⟨hv, hhv⟩ : ∃ z, hashV ⟨3, 1, 3, 0, 4⟩ pl = z := ⟨_, rfl⟩
    obtain ⟨po, hpo⟩ : ∃ z, putOk 32 t.W pl = z := ⟨_, rfl⟩
    have HHV := Lib.hid hhv; have HPO := Lib.hid hpo; have HSM := Lib.hid hsm
    have hr2 : writeT t pl x = (if hv < 0 then abortT t 4 else if po then ({ t with W := putW 32 t.W pl x }, 1) else abortT { t with W := putW 32 t.W pl x } 4) := by unfold writeT; rw [q, hhv, hpo]; rfl
    clear q hhv hpo hsm
    by_cases q1 : hv < 0
    · have HRES := Lib.hid (show writeT t pl x = abortT t 4 by rw [hr2, if_pos q1])
      have eq1 : decide (hv < 0) = true := decide_eq_true q1
      clear hr2 q1
      go_enter Try.func66, Try.ntmps66
      go_wp2_with (first
        | (go_at_call 56; refine (xidle_any h).mono ?_; rw [HQ.out]; rintro e w1 ⟨rfl, hw⟩; subst hw)
        | (go_at_call 58; refine (hash_lit 3 1 3 0 4 pl hv HHV.out _).mono ?_; rintro e w4 ⟨rfl, hk4⟩; have h4 := h.no hk4; have c7' := h4.tx.c 7 (u := .pointer (some ⟨ra, 0, none⟩)) rfl; have c8' := h4.tx.c 8 (u := .pointer (some ⟨wa, 0, none⟩)) rfl)
        | (go_at_call 47; refine (xabort_any h4 4).mono ?_; rintro e w6 ⟨rfl, h6, k6⟩))
      go_ret
      rw [HRES.out]
      exact ⟨rfl, h.kx (hk4.no.trans k6) h6⟩
    · have eq1 : decide (hv < 0) = false := decide_eq_false q1
      cases po with
      | true =>
        have HRES := Lib.hid (show writeT t pl x = ({ t with W := putW 32 t.W pl x }, 1) by rw [hr2, if_neg q1]; rfl)
        clear hr2 q1
        go_enter Try.func66, Try.ntmps66
        go_wp2_with (first
          | (go_at_call 56; refine (xidle_any h).mono ?_; rw [HQ.out]; rintro e w1 ⟨rfl, hw⟩; subst hw)
          | (go_at_call 58; refine (hash_lit 3 1 3 0 4 pl hv HHV.out _).mono ?_; rintro e w4 ⟨rfl, hk4⟩; have h4 := h.no hk4; have c7' := h4.tx.c 7 (u := .pointer (some ⟨ra, 0, none⟩)) rfl; have c8' := h4.tx.c 8 (u := .pointer (some ⟨wa, 0, none⟩)) rfl)
          | (go_at_call 82; refine (h4.wput pl x HSM.out).mono ?_; rw [HPO.out]; rintro e w5 ⟨rfl, rv5, wv5, vv5, h5, k5, g5⟩))
        go_ret
        rw [HRES.out]
        exact ⟨rfl, NXP.after (kx_m hk4.no) ⟨rv5, wv5, vv5, h5, k5, g5⟩⟩
      | false =>
        have HRES := Lib.hid (show writeT t pl x = abortT { t with W := putW 32 t.W pl x } 4 by rw [hr2, if_neg q1]; rfl)
        clear hr2 q1
        go_enter Try.func66, Try.ntmps66
        go_wp2_with (first
          | (go_at_call 56; refine (xidle_any h).mono ?_; rw [HQ.out]; rintro e w1 ⟨rfl, hw⟩; subst hw)
          | (go_at_call 58; refine (hash_lit 3 1 3 0 4 pl hv HHV.out _).mono ?_; rintro e w4 ⟨rfl, hk4⟩; have h4 := h.no hk4; have c7' := h4.tx.c 7 (u := .pointer (some ⟨ra, 0, none⟩)) rfl; have c8' := h4.tx.c 8 (u := .pointer (some ⟨wa, 0, none⟩)) rfl)
          | (go_at_call 82; refine (h4.wput pl x HSM.out).mono ?_; rw [HPO.out]; rintro e w5 ⟨rfl, rv5, wv5, vv5, h5, k5, g5⟩)
          | (go_at_call 47; refine (xabort_any h5 4).mono ?_; rintro e w6 ⟨rfl, h6, k6⟩))
        go_ret
        rw [HRES.out]
        exact ⟨rfl, NXP.after (kx_m hk4.no) (NXP.then k5 g5 (h5.kx k6 h6))⟩
end Go.Proofs.Ytfmamedkiaimpaa
