/- Package condq: each function with what it computes. -/
import Derived.Test.YtodaiogefgdcpaaBox
namespace Go.Proofs.Ytodaiogefgdcpaa
open Go.RowKit
/-- a row -/
structure RowS where
  k : Int
  c : Int
  t : Int
  s : Int
  f : Int
  l : Int
def rowV (r : RowS) : Value := .agg #[.int .i64 r.k, .int .i64 r.c, .int .i64 r.t, .int .i64 r.s, .int .i64 r.f, .int .i64 r.l]
/-- what a row asks for -/
structure AskR where
  k : Int
  at_ : Int
  v : Int
def askV (a : AskR) : Value := .agg #[.int .i64 a.k, .int .i64 a.at_, .int .i64 a.v]
def slotP (m : MapS) (c n : Int) : Int := condP m c (2 + n % 4)
def fitsB (m : MapS) (r : RowS) : Bool := decide (0 ≤ condP m r.c 0) && decide (0 ≤ flagP m r.t)
def sleepsA (m : MapS) (r : RowS) : AskR :=
  if r.s = 0 then ⟨1, condP m r.c 1, 0⟩ else if r.s = 1 then ⟨2, slotP m r.c r.l, wrap64 (r.t + 1)⟩ else if r.s = 2 then ⟨2, condP m r.c 1, wrap64 (r.l + 1)⟩ else if r.s = 3 then ⟨2, flagP m r.t, 1⟩ else ⟨0, 0, 0⟩
def wakesA (m : MapS) (r : RowS) : AskR :=
  if r.s = 0 then ⟨1, condP m r.c 0, 0⟩ else if r.s = 1 then ⟨1, condP m r.c 1, 0⟩ else if r.s = 2 then ⟨1, slotP m r.c r.f, 0⟩ else if r.s = 8 then ⟨2, condP m r.c 0, wrap64 (r.f + 1)⟩
  else if 10 ≤ r.s ∧ 0 ≤ flagP m (r.s - 10) then ⟨2, flagP m (r.s - 10), 0⟩ else ⟨0, 0, 0⟩
def nextA (m : MapS) (r : RowS) : AskR := if fitsB m r then (if r.k = 1 then sleepsA m r else if r.k = 2 ∨ r.k = 3 then wakesA m r else ⟨0, 0, 0⟩) else ⟨0, 0, 0⟩
def fedR (m : MapS) (r : RowS) (v : Int) : RowS :=
  if (nextA m r).k = 0 then r
  else if r.k = 1 then (if r.s = 0 then ⟨r.k, r.c, r.t, 1, r.f, v⟩ else if r.s = 3 then ⟨r.k, r.c, r.t, 9, r.f, r.l⟩ else ⟨r.k, r.c, r.t, r.s + 1, r.f, r.l⟩)
  else if r.s = 0 then ⟨r.k, r.c, r.t, 1, v, r.l⟩
  else if r.s = 1 then ⟨r.k, r.c, r.t, if r.f = v then 9 else 2, r.f, v⟩
  else if r.s = 2 then ⟨r.k, r.c, r.t, if 1 ≤ v ∧ v ≤ m.t then 9 + v else 8, r.f, r.l⟩
  else if r.s = 8 then (if r.k = 3 then ⟨r.k, r.c, r.t, if wrap64 (r.f + 1) = r.l then 9 else 2, wrap64 (r.f + 1), r.l⟩ else ⟨r.k, r.c, r.t, 9, r.f, r.l⟩)
  else ⟨r.k, r.c, r.t, 8, r.f, r.l⟩
def startR (k c t : Int) : RowS := ⟨k, c, t, if k < 1 ∨ 3 < k then 9 else 0, 0, 0⟩
theorem and_3 (x : Int) : bits .and .i64 x 3 = x % 4 := and_mask x 2 (by decide) 3 rfl
/-- two boxes: a map, a row -/
def MR (B : Nat) (ms ml mt mc md k c t s f l : Int) (w : World) : Prop := (w.cell? ⟨B, 0, none⟩ = some (.int .i64 ms) ∧ w.cell? ⟨B, 1, none⟩ = some (.int .i64 ml) ∧ w.cell? ⟨B, 2, none⟩ = some (.int .i64 mt) ∧ w.cell? ⟨B, 3, none⟩ = some (.int .i64 mc) ∧ w.cell? ⟨B, 4, none⟩ = some (.int .i64 md)) ∧ (w.cell? ⟨(B + 1), 0, none⟩ = some (.int .i64 k) ∧ w.cell? ⟨(B + 1), 1, none⟩ = some (.int .i64 c) ∧ w.cell? ⟨(B + 1), 2, none⟩ = some (.int .i64 t) ∧ w.cell? ⟨(B + 1), 3, none⟩ = some (.int .i64 s) ∧ w.cell? ⟨(B + 1), 4, none⟩ = some (.int .i64 f) ∧ w.cell? ⟨(B + 1), 5, none⟩ = some (.int .i64 l))
theorem MR.keep {S : Nat → Prop} {B : Nat} {ms ml mt mc md k c t s f l : Int} {w w' : World} (h : MR B ms ml mt mc md k c t s f l w) (kk : Keeps S w w') (h1 : ¬ S B) (h2 : ¬ S (B + 1)) : MR B ms ml mt mc md k c t s f l w' := by
  obtain ⟨⟨a0, a1, a2, a3, a4⟩, b0, b1, b2, b3, b4, b5⟩ := h
  exact ⟨⟨kk.cell a0 h1, kk.cell a1 h1, kk.cell a2 h1, kk.cell a3 h1, kk.cell a4 h1⟩, kk.cell b0 h2, kk.cell b1 h2, kk.cell b2 h2, kk.cell b3 h2, kk.cell b4 h2, kk.cell b5 h2⟩
theorem MR.no {B : Nat} {ms ml mt mc md k c t s f l : Int} {w w' : World} (h : MR B ms ml mt mc md k c t s f l w) (kk : Keeps NoS w w') : MR B ms ml mt mc md k c t s f l w' := h.keep kk (fun f => f) (fun f => f)
theorem MR.drew {B : Nat} {ms ml mt mc md k c t s f l : Int} {w : World} (h : MR B ms ml mt mc md k c t s f l w) : MR B ms ml mt mc md k c t s f l w.drew := h
theorem MR.out {B : Nat} {ms ml mt mc md k c t s f l : Int} {w : World} (h : MR B ms ml mt mc md k c t s f l w) : (w.cell? ⟨B, 0, none⟩ = some (.int .i64 ms) ∧ w.cell? ⟨B, 1, none⟩ = some (.int .i64 ml) ∧ w.cell? ⟨B, 2, none⟩ = some (.int .i64 mt) ∧ w.cell? ⟨B, 3, none⟩ = some (.int .i64 mc) ∧ w.cell? ⟨B, 4, none⟩ = some (.int .i64 md)) ∧ (w.cell? ⟨(B + 1), 0, none⟩ = some (.int .i64 k) ∧ w.cell? ⟨(B + 1), 1, none⟩ = some (.int .i64 c) ∧ w.cell? ⟨(B + 1), 2, none⟩ = some (.int .i64 t) ∧ w.cell? ⟨(B + 1), 3, none⟩ = some (.int .i64 s) ∧ w.cell? ⟨(B + 1), 4, none⟩ = some (.int .i64 f) ∧ w.cell? ⟨(B + 1), 5, none⟩ = some (.int .i64 l)) := h
theorem mr_new (w : World) (ms ml mt mc md k c t s f l : Int) (T U : TypeId) : MR w.heap.size ms ml mt mc md k c t s f l ((w.alloc (.cells #[.int .i64 ms, .int .i64 ml, .int .i64 mt, .int .i64 mc, .int .i64 md] T)).alloc (.cells #[.int .i64 k, .int .i64 c, .int .i64 t, .int .i64 s, .int .i64 f, .int .i64 l] U)) := by
  have h1 := mapAt_new w ms ml mt mc md T
  have h2 : ((w.alloc (.cells #[.int .i64 ms, .int .i64 ml, .int .i64 mt, .int .i64 mc, .int .i64 md] T)).alloc (.cells #[.int .i64 k, .int .i64 c, .int .i64 t, .int .i64 s, .int .i64 f, .int .i64 l] U)).heap[(w.alloc (.cells #[.int .i64 ms, .int .i64 ml, .int .i64 mt, .int .i64 mc, .int .i64 md] T)).heap.size]? = some (.cells #[.int .i64 k, .int .i64 c, .int .i64 t, .int .i64 s, .int .i64 f, .int .i64 l] U (0, 0)) := heap_alloc_new _ _
  have h3 : (w.alloc (.cells #[.int .i64 ms, .int .i64 ml, .int .i64 mt, .int .i64 mc, .int .i64 md] T)).heap.size = w.heap.size + 1 := by simp
  rw [h3] at h2
  obtain ⟨a0, a1, a2, a3, a4⟩ := h1.keep ((Keeps.refl NoS _).alloc (.cells #[.int .i64 k, .int .i64 c, .int .i64 t, .int .i64 s, .int .i64 f, .int .i64 l] U)) (fun f => f)
  exact ⟨⟨a0, a1, a2, a3, a4⟩, by rw [blk_cell h2]; rfl, by rw [blk_cell h2]; rfl, by rw [blk_cell h2]; rfl, by rw [blk_cell h2]; rfl, by rw [blk_cell h2]; rfl, by rw [blk_cell h2]; rfl⟩
/-- what is handed back: its own block, written to -/
def Out (n : Nat) (g : Nat) (w : World) : Prop := ∃ (cs : Array Value) (T : TypeId), w.heap[g]? = some (.cells cs T (0, 0)) ∧ cs.size = n
set_option maxHeartbeats 4000000 in
set_option maxRecDepth 100000 in
theorem slot_any (ms ml mt mc md k c t s f l n : Int) (w : World) : Calls Try.prog 91 #[.agg #[.int .i64 ms, .int .i64 ml, .int .i64 mt, .int .i64 mc, .int .i64 md], .agg #[.int .i64 k, .int .i64 c, .int .i64 t, .int .i64 s, .int .i64 f, .int .i64 l], .int .i64 n] w fun e w' => e = .returned (.int .i64 (slotP ⟨ms, ml, mt, mc, md⟩ c n)) ∧ Keeps NoS w w' := by
  unfold slotP
  have a3 := and_3 n
  obtain ⟨q, hq⟩ : ∃ q, n % 4 = q := ⟨_, rfl⟩
  have hq0 : 0 ≤ q := by omega
  have hq1 : q < 4 := by omega
  rw [hq] at a3
  rw [hq]
  clear hq
  obtain ⟨x, hx⟩ : ∃ x, condP ⟨ms, ml, mt, mc, md⟩ c (2 + q) = x := ⟨_, rfl⟩
  rw [hx]
  have HX := Lib.hid hx
  clear hx
  go_enter Try.func91, Try.ntmps91
  go_wp2_with (go_at_call 48; refine (cond_lit ms ml mt mc md c (2 + q) x HX.out _).mono ?_; rintro e w1 ⟨rfl, hk1⟩)
  go_ret
  exact ⟨rfl, (((Keeps.refl NoS w).alloc _).alloc _).trans hk1⟩
set_option maxHeartbeats 4000000 in
set_option maxRecDepth 100000 in
theorem fitsc_any (ms ml mt mc md k c t s f l : Int) (w : World) : Calls Try.prog 77 #[.agg #[.int .i64 ms, .int .i64 ml, .int .i64 mt, .int .i64 mc, .int .i64 md], .agg #[.int .i64 k, .int .i64 c, .int .i64 t, .int .i64 s, .int .i64 f, .int .i64 l]] w fun e w' => e = .returned (.bool (fitsB ⟨ms, ml, mt, mc, md⟩ ⟨k, c, t, s, f, l⟩)) ∧ Keeps NoS w w' := by
  unfold fitsB
  dsimp only
  obtain ⟨x, hx⟩ : ∃ x, condP ⟨ms, ml, mt, mc, md⟩ c 0 = x := ⟨_, rfl⟩
  obtain ⟨y, hy⟩ : ∃ y, flagP ⟨ms, ml, mt, mc, md⟩ t = y := ⟨_, rfl⟩
  rw [hx, hy]
  have HX := Lib.hid hx; have HY := Lib.hid hy
  have hmr := mr_new w ms ml mt mc md k c t s f l 25 70
  obtain ⟨B, hB⟩ : ∃ B, w.heap.size = B := ⟨_, rfl⟩
  rw [hB] at hmr
  have HMR := Lib.hid hmr; have HB := Lib.hid hB
  clear hx hy hmr hB
  cases d1 : decide (0 ≤ x) with
  | false =>
    go_enter Try.func77, Try.ntmps77
    go_wp2_with fail
    refine (cond_lit ms ml mt mc md c 0 x HX.out _).mono ?_
    rintro e w1 ⟨rfl, hk1⟩
    obtain ⟨⟨a0, a1, a2, a3, a4⟩, b0, b1, b2, b3, b4, b5⟩ := HMR.out.no hk1
    rw [HB.out]
    go_wp2_with fail
    go_ret
    exact ⟨rfl, (((Keeps.refl NoS w).alloc _).alloc _).trans hk1⟩
  | true =>
    go_enter Try.func77, Try.ntmps77
    go_wp2_with fail
    refine (cond_lit ms ml mt mc md c 0 x HX.out _).mono ?_
    rintro e w1 ⟨rfl, hk1⟩
    obtain ⟨⟨a0, a1, a2, a3, a4⟩, b0, b1, b2, b3, b4, b5⟩ := HMR.out.no hk1
    rw [HB.out]
    go_wp2_with (go_at_call 49; refine (flag_lit ms ml mt mc md t y HY.out _).mono ?_; rintro e w2 ⟨rfl, hk2⟩)
    go_ret
    exact ⟨rfl, ((((Keeps.refl NoS w).alloc _).alloc _).trans hk1).trans hk2⟩
end Go.Proofs.Ytodaiogefgdcpaa
