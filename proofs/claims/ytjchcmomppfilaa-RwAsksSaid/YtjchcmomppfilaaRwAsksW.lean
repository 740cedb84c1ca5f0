/- Each step of any hand, at any words, is what the document says (the walk). -/
import Derived.Test.YtjchcmomppfilaaSc
import Derived.Test.YtjchcmomppfilaaDag
import Derived.Test.YtjchcmomppfilaaHeldT
import Derived.Test.YtjchcmomppfilaaRwTold
import Derived.Test.YtjchcmomppfilaaRwRef
import Derived.Test.YtjchcmomppfilaaIn2
import Derived.Test.YtjchcmomppfilaaMemAll
namespace Go.Proofs.Ytjchcmomppfilaa
open Go.RowKit
theorem mod_bdT (z : Int) (n : Int) (h : 0 < n) : ∃ q, (IntKind.u64.wrap z).tmod n = q ∧ 0 ≤ q ∧ q < n := ⟨_, rfl, (u64_tmod_bd z n (by omega)).1, (u64_tmod_bd z n (by omega)).2⟩
def AnyHand (r : Bool) (w : World) (e : Ending) (w' : World) : Prop := ∃ t l s x : Int, e = .returned (.agg #[.int .i64 t, .int .i64 l, .int .i64 s, .bool r, .int .i64 x]) ∧ Keeps NoS w w'
set_option maxHeartbeats 1000000 in
set_option maxRecDepth 100000 in
theorem hand9_any (t l s : Int) (r : Bool) (x : Int) (w : World) : Calls Try.prog 25 #[.agg #[.int .i64 t, .int .i64 l, .int .i64 s, .bool r, .int .i64 x]] w (AnyHand r w) := by
  have hk0 : Keeps NoS w ((w.alloc (.cells #[.int .i64 t, .int .i64 l, .int .i64 s, .bool r, .int .i64 x] 37)).alloc (.cells #[.int .i64 0, .int .i64 0, .int .i64 0, .bool false, .int .i64 0] 37)) := ((Keeps.refl NoS w).alloc _).alloc _
  obtain ⟨B, hB⟩ : ∃ B, w.heap.size = B := ⟨_, rfl⟩
  have HB := Lib.hid hB
  have HK := Lib.hid hk0
  obtain ⟨q0, hq0, a0, b0⟩ := mod_bdT t 4 (by omega)
  obtain ⟨q1, hq1, a1, b1⟩ := mod_bdT l 2 (by omega)
  obtain ⟨q2, hq2, a2, b2⟩ := mod_bdT s 16 (by omega)
  obtain ⟨q4, hq4, a4, b4⟩ := mod_bdT x 10 (by omega)
  clear hB hk0
  go_enter Try.func25, Try.ntmps25
  go_wp2_with fail
  refine bodyPost_ret (v := .agg #[.int .i64 q0, .int .i64 q1, .int .i64 q2, .bool r, .int .i64 q4]) (by simp [results, Try.results25, go_sem, *]) rfl ⟨q0, q1, q2, q4, rfl, ?_⟩
  repeat (first | (with_reducible exact HK.out) | (with_reducible exact Keeps.refl _ _) | refine Keeps.alloc ?_ _ | refine kset HB.out ?_ _ (by show B ≤ _; dsimp only; first | omega | (have := HB.out; omega) | (rw [HB.out]; omega) | (simp [HB.out])) _)
theorem list6 {zs : List Int} (h : zs.length = 6) : ∃ z0 z1 z2 z3 z4 z5, zs = [z0, z1, z2, z3, z4, z5] := by
  match zs, h with
  | [z0, z1, z2, z3, z4, z5], _ => exact ⟨z0, z1, z2, z3, z4, z5, rfl⟩
def six (a0 a1 a2 a3 a4 a5 : Nat) (i : Nat) : Nat := [a0, a1, a2, a3, a4, a5].getD i 0
def sixI (a0 a1 a2 a3 a4 a5 : Int) (i : Nat) : Int := [a0, a1, a2, a3, a4, a5].getD i 0
theorem six_cell {wr : World} {g : Nat} {T : TypeId} {a0 a1 a2 a3 a4 a5 : Nat} (h : Blk wr g T #[.int .i64 (a0 : Nat), .int .i64 (a1 : Nat), .int .i64 (a2 : Nat), .int .i64 (a3 : Nat), .int .i64 (a4 : Nat), .int .i64 (a5 : Nat)]) (i : Nat) (hi : i < 6) : wr.cell? ⟨g, i, none⟩ = some (.int .i64 (six a0 a1 a2 a3 a4 a5 i : Nat)) := by
  match i, hi with
  | 0, _ => exact (h.cell 0).trans rfl
  | 1, _ => exact (h.cell 1).trans rfl
  | 2, _ => exact (h.cell 2).trans rfl
  | 3, _ => exact (h.cell 3).trans rfl
  | 4, _ => exact (h.cell 4).trans rfl
  | 5, _ => exact (h.cell 5).trans rfl
theorem sixI_cell {wr : World} {g : Nat} {T : TypeId} {z0 z1 z2 z3 z4 z5 : Int} (h : Blk wr g T #[.int .i64 z0, .int .i64 z1, .int .i64 z2, .int .i64 z3, .int .i64 z4, .int .i64 z5]) (i : Nat) (hi : i < 6) : wr.cell? ⟨g, i, none⟩ = some (.int .i64 (sixI z0 z1 z2 z3 z4 z5 i)) := by
  match i, hi with
  | 0, _ => exact (h.cell 0).trans rfl
  | 1, _ => exact (h.cell 1).trans rfl
  | 2, _ => exact (h.cell 2).trans rfl
  | 3, _ => exact (h.cell 3).trans rfl
  | 4, _ => exact (h.cell 4).trans rfl
  | 5, _ => exact (h.cell 5).trans rfl
theorem six_lt {a0 a1 a2 a3 a4 a5 : Nat} (h0 : a0 < 48) (h1 : a1 < 48) (h2 : a2 < 48) (h3 : a3 < 48) (h4 : a4 < 48) (h5 : a5 < 48) (i : Nat) : six a0 a1 a2 a3 a4 a5 i < 48 := by
  match i with
  | 0 => exact h0
  | 1 => exact h1
  | 2 => exact h2
  | 3 => exact h3
  | 4 => exact h4
  | 5 => exact h5
  | k + 6 => exact (by decide : (0 : Nat) < 48)
theorem tmod5 (t : Nat) (h : t < 4) : (IntKind.i64.wrap ((t : Int) + 1)).tmod 4 = (((t + 1) % 4 : Nat) : Int) := by
  match t, h with
  | 0, _ => rfl
  | 1, _ => rfl
  | 2, _ => rfl
  | 3, _ => rfl
theorem modN (z n : Int) (hn : 0 < n) : ∃ q : Nat, (IntKind.u64.wrap z).tmod n = (q : Int) ∧ (q : Int) < n := by
  obtain ⟨h1, h2⟩ := u64_tmod_bd z n (by omega)
  exact ⟨((IntKind.u64.wrap z).tmod n).toNat, by omega, by omega⟩
theorem ak_keep3 {w wr : World} {B F H At a c : Nat} {v u : Value} {M N : MemS} {t1 l1 s1 : Int} {rd : Bool} {x1 : Int} {a0 a1 a2 a3 a4 a5 : Nat} (hS : Sc w wr a c v u M N [(F, 54, #[.int .i64 2, .int .i64 2, .int .i64 4, .int .i64 0, .int .i64 2]), (B, 24, #[.int .i64 2, .int .i64 2, .int .i64 4, .int .i64 0, .int .i64 2]), (H, 37, #[.int .i64 t1, .int .i64 l1, .int .i64 s1, .bool rd, .int .i64 x1]), (At, 3, #[.int .i64 (a0 : Nat), .int .i64 (a1 : Nat), .int .i64 (a2 : Nat), .int .i64 (a3 : Nat), .int .i64 (a4 : Nat), .int .i64 (a5 : Nat)])]) : (wr.cell? ⟨F, 0, none⟩ = some (.int .i64 2) ∧ wr.cell? ⟨F, 1, none⟩ = some (.int .i64 2) ∧ wr.cell? ⟨F, 2, none⟩ = some (.int .i64 4) ∧ wr.cell? ⟨F, 3, none⟩ = some (.int .i64 0) ∧ wr.cell? ⟨F, 4, none⟩ = some (.int .i64 2)) ∧ (wr.cell? ⟨B, 0, none⟩ = some (.int .i64 2) ∧ wr.cell? ⟨B, 1, none⟩ = some (.int .i64 2) ∧ wr.cell? ⟨B, 2, none⟩ = some (.int .i64 4) ∧ wr.cell? ⟨B, 3, none⟩ = some (.int .i64 0) ∧ wr.cell? ⟨B, 4, none⟩ = some (.int .i64 2)) ∧ (wr.cell? ⟨H, 0, none⟩ = some (.int .i64 t1) ∧ wr.cell? ⟨H, 1, none⟩ = some (.int .i64 l1) ∧ wr.cell? ⟨H, 2, none⟩ = some (.int .i64 s1) ∧ wr.cell? ⟨H, 3, none⟩ = some (.bool rd) ∧ wr.cell? ⟨H, 4, none⟩ = some (.int .i64 x1)) := ⟨hS.bg.b0.cells5, hS.bg.tl.b0.cells5, hS.bg.tl.tl.b0.cells5⟩
theorem ak_keep5 {w wr : World} {B F H At a c g1 g2 : Nat} {v u : Value} {M N : MemS} {t1 l1 s1 : Int} {rd : Bool} {x1 : Int} {t2 l2 s2 : Int} {r2 : Bool} {x2 : Int} {a0 a1 a2 a3 a4 a5 : Nat} (hS : Sc w wr a c v u M N ((g2, 37, #[.int .i64 t2, .int .i64 l2, .int .i64 s2, .bool r2, .int .i64 x2]) :: (g1, 37, #[.int .i64 t2, .int .i64 l2, .int .i64 s2, .bool r2, .int .i64 x2]) :: [(F, 54, #[.int .i64 2, .int .i64 2, .int .i64 4, .int .i64 0, .int .i64 2]), (B, 24, #[.int .i64 2, .int .i64 2, .int .i64 4, .int .i64 0, .int .i64 2]), (H, 37, #[.int .i64 t1, .int .i64 l1, .int .i64 s1, .bool rd, .int .i64 x1]), (At, 3, #[.int .i64 (a0 : Nat), .int .i64 (a1 : Nat), .int .i64 (a2 : Nat), .int .i64 (a3 : Nat), .int .i64 (a4 : Nat), .int .i64 (a5 : Nat)])])) : ((wr.cell? ⟨F, 0, none⟩ = some (.int .i64 2) ∧ wr.cell? ⟨F, 1, none⟩ = some (.int .i64 2) ∧ wr.cell? ⟨F, 2, none⟩ = some (.int .i64 4) ∧ wr.cell? ⟨F, 3, none⟩ = some (.int .i64 0) ∧ wr.cell? ⟨F, 4, none⟩ = some (.int .i64 2)) ∧ (wr.cell? ⟨B, 0, none⟩ = some (.int .i64 2) ∧ wr.cell? ⟨B, 1, none⟩ = some (.int .i64 2) ∧ wr.cell? ⟨B, 2, none⟩ = some (.int .i64 4) ∧ wr.cell? ⟨B, 3, none⟩ = some (.int .i64 0) ∧ wr.cell? ⟨B, 4, none⟩ = some (.int .i64 2)) ∧ (wr.cell? ⟨H, 0, none⟩ = some (.int .i64 t1) ∧ wr.cell? ⟨H, 1, none⟩ = some (.int .i64 l1) ∧ wr.cell? ⟨H, 2, none⟩ = some (.int .i64 s1) ∧ wr.cell? ⟨H, 3, none⟩ = some (.bool rd) ∧ wr.cell? ⟨H, 4, none⟩ = some (.int .i64 x1)) ∧ (wr.cell? ⟨g1, 0, none⟩ = some (.int .i64 t2) ∧ wr.cell? ⟨g1, 1, none⟩ = some (.int .i64 l2) ∧ wr.cell? ⟨g1, 2, none⟩ = some (.int .i64 s2) ∧ wr.cell? ⟨g1, 3, none⟩ = some (.bool r2) ∧ wr.cell? ⟨g1, 4, none⟩ = some (.int .i64 x2)) ∧ (wr.cell? ⟨g2, 0, none⟩ = some (.int .i64 t2) ∧ wr.cell? ⟨g2, 1, none⟩ = some (.int .i64 l2) ∧ wr.cell? ⟨g2, 2, none⟩ = some (.int .i64 s2) ∧ wr.cell? ⟨g2, 3, none⟩ = some (.bool r2) ∧ wr.cell? ⟨g2, 4, none⟩ = some (.int .i64 x2))) ∧ wr.cell? ⟨At, 1, none⟩ = some (.int .i64 (a1 : Nat)) :=
  ⟨⟨hS.bg.tl.tl.b0.cells5, hS.bg.tl.tl.tl.b0.cells5, hS.bg.tl.tl.tl.tl.b0.cells5, hS.bg.tl.b0.cells5, hS.bg.b0.cells5⟩, (hS.bg.tl.tl.tl.tl.tl.b0.cell 1).trans rfl⟩
set_option maxHeartbeats 40000000 in
set_option maxRecDepth 100000 in
theorem rwAsks_walk (w : World) (zs : List Int) (e0 : zs.length = 6) (_f0 : ∀ k, k < zs.length → (Lit.int .i64 (zs.getD k 0)).wf = true) (t0 : Int) (_e0 : (Lit.int .i64 t0).wf = true) (l0 : Int) (_e1 : (Lit.int .i64 l0).wf = true) (s0 : Int) (_e2 : (Lit.int .i64 s0).wf = true) (rd : Bool) (x0 : Int) (_e4 : (Lit.int .i64 x0).wf = true) (near drop : Bool) :
    Calls Try.prog 11 #[.agg (nums zs), .agg #[.int .i64 t0, .int .i64 l0, .int .i64 s0, .bool rd, .int .i64 x0], .bool near, .bool drop] w fun e w' => e = .returned (.bool true) ∧ Keeps NoS w w' := by
  obtain ⟨z0, z1, z2, z3, z4, z5, rfl⟩ := list6 e0
  rw [show nums [z0, z1, z2, z3, z4, z5] = #[.int .i64 z0, .int .i64 z1, .int .i64 z2, .int .i64 z3, .int .i64 z4, .int .i64 z5] from rfl]
  clear e0 _f0 _e0 _e1 _e2 _e4
  have h0 := ((Bg.nil w).new #[.int .i64 z0, .int .i64 z1, .int .i64 z2, .int .i64 z3, .int .i64 z4, .int .i64 z5] 76).new #[.int .i64 t0, .int .i64 l0, .int .i64 s0, .bool rd, .int .i64 x0] 37
  have hWH : w.heap.size ≠ (w.alloc (.cells #[.int .i64 z0, .int .i64 z1, .int .i64 z2, .int .i64 z3, .int .i64 z4, .int .i64 z5] 76)).heap.size := by simp
  obtain ⟨Wd, hWd⟩ : ∃ H, w.heap.size = H := ⟨_, rfl⟩
  obtain ⟨H, hH⟩ : ∃ H, (w.alloc (.cells #[.int .i64 z0, .int .i64 z1, .int .i64 z2, .int .i64 z3, .int .i64 z4, .int .i64 z5] 76)).heap.size = H := ⟨_, rfl⟩
  rw [hH] at h0 hWH
  rw [hWd] at h0 hWH
  have H0 := Lib.hid h0
  have hHe : w.heap.size + 1 = H := by rw [← hH]; simp
  have HWD := Lib.hid hWd; have HHE := Lib.hid hHe; have HWH := Lib.hid hWH; have HH' := Lib.hid hH
  clear h0 hH hWd hHe hWH
  obtain ⟨i0, hi, hz0, hz1, hz2⟩ := info_parts infoI64
  have mm1 : i0.bytes * 48 ≤ 281474976710656 := by rw [hz2]; omega
  have mm2 : 48 ≤ maxLen := by unfold maxLen; omega
  have MM := Lib.hid (And.intro mm1 mm2)
  have HI := Lib.hid (And.intro hi (And.intro hz0 hz1))
  clear mm1 mm2 hi hz0 hz1 hz2
  go_enter Try.func11, Try.ntmps11
  go_wp2_with fail
  (try rw [HH'.out])
  (try rw [HHE.out])
  (try rw [HWD.out])
  generalize (w.alloc (.cells #[.int .i64 z0, .int .i64 z1, .int .i64 z2, .int .i64 z3, .int .i64 z4, .int .i64 z5] 76)).alloc (.cells #[.int .i64 t0, .int .i64 l0, .int .i64 s0, .bool rd, .int .i64 x0] 37) = wa at *
  clear HH' HHE HWD
  refine (map8_any _).mono ?_
  rintro e wb ⟨rfl, hk1⟩
  have h1 := (H0.out.no hk1).new #[.int .i64 2, .int .i64 2, .int .i64 4, .int .i64 0, .int .i64 2] 24
  go_upto_if 21 with fail
  obtain ⟨B, hB⟩ : ∃ B, wb.heap.size = B := ⟨_, rfl⟩
  rw [hB] at h1
  (try rw [hB])
  generalize wb.alloc (.cells #[.int .i64 2, .int .i64 2, .int .i64 4, .int .i64 0, .int .i64 2] 24) = wc at *
  have hBH : B ≠ H := fun e => by
    have h := h1.b0
    have h' := h1.tl.b0
    rw [e] at h
    have := h.symm.trans h'
    simp at this
  clear hB hk1 H0
  have H1 := Lib.hid h1; have HBH := Lib.hid hBH
  clear h1 hBH
  go_cut [] (fun wx => ∃ t l s x : Int, Bg w wx [(B, 24, #[.int .i64 2, .int .i64 2, .int .i64 4, .int .i64 0, .int .i64 2]), (H, 37, #[.int .i64 t, .int .i64 l, .int .i64 s, .bool rd, .int .i64 x]), (Wd, 76, #[.int .i64 z0, .int .i64 z1, .int .i64 z2, .int .i64 z3, .int .i64 z4, .int .i64 z5])])
  case first =>
    cases near
    · go_wp2_with fail
      go_meet
      exact ⟨_, _, _, _, H1.out⟩
    · obtain ⟨z0', z1', z2', z3', z4'⟩ := H1.out.tl.b0.cells5
      go_wp2_with fail
      refine (hand9_any t0 l0 s0 rd x0 _).mono ?_
      rintro e wd ⟨q0, q1, q2, q4, rfl, hk2⟩
      have h2 := H1.out.no hk2
      clear z0' z1' z2' z3' z4'
      obtain ⟨z0', z1', z2', z3', z4'⟩ := h2.tl.b0.cells5
      have y0 := h2.tl.b0.free 0; have y1 := h2.tl.b0.free 1; have y2 := h2.tl.b0.free 2; have y3 := h2.tl.b0.free 3; have y4 := h2.tl.b0.free 4
      have kk := kput5 (wr := wd) H (.int .i64 q0) (.int .i64 q1) (.int .i64 q2) (.bool rd) (.int .i64 q4)
      have hlo := h2.tl.l0
      have hB' := h2.b0.far kk HBH.out
      have hW' := h2.tl.tl.b0.far kk HWH.out
      have hH' := h2.tl.b0.put5 (.int .i64 q0) (.int .i64 q1) (.int .i64 q2) (.bool rd) (.int .i64 q4)
      have h3 := (((Bg.mk (l := []) (h2.kp.trans' kk (fun i hi e => by have e' : i = H := e; have hlo' : w.heap.size ≤ H := hlo; omega)) (by simp) (by simp)).push h2.tl.tl.l0 hW').push hlo hH').push h2.l0 hB'
      have H3 := Lib.hid h3
      clear h3 hH' hB' hW' hlo kk h2 hk2
      go_wp2_with fail
      go_meet
      exact ⟨q0, q1, q2, q4, H3.out⟩
  case rest =>
    clear H1
    obtain ⟨t1, l1, s1, x1, h2⟩ := hcut
    obtain ⟨b0, b1, b2, b3, b4⟩ := h2.b0.cells5
    have H2 := Lib.hid h2
    clear h2
    go_wp2_with fail
    refine (ref_any ⟨2, 2, 4, 0, 2⟩ _).mono ?_
    rintro e wd ⟨rfl, hk2⟩
    unfold mapV; dsimp only
    have h3 := (H2.out.no hk2).new #[.int .i64 2, .int .i64 2, .int .i64 4, .int .i64 0, .int .i64 2] 54
    obtain ⟨F, hF⟩ : ∃ F, wd.heap.size = F := ⟨_, rfl⟩
    rw [hF] at h3
    clear b0 b1 b2 b3 b4
    obtain ⟨b0, b1, b2, b3, b4⟩ := h3.b0.cells5
    have H3 := Lib.hid h3
    have hkF := (Keeps.refl NoS wd).alloc (.cells #[.int .i64 2, .int .i64 2, .int .i64 4, .int .i64 0, .int .i64 2] 54)
    clear h3 hk2 H2
    go_wp2_with fail
    (try rw [hF])
    generalize wd.alloc (.cells #[.int .i64 2, .int .i64 2, .int .i64 4, .int .i64 0, .int .i64 2] 54) = we at *
    clear hF hkF
    refine (rsize_lit 2 2 4 0 2 48 m9_size _).mono ?_
    rintro e wf ⟨rfl, hk3⟩
    have H4 := Lib.hid (H3.out.no hk3)
    clear H3 hk3 b0 b1 b2 b3 b4
    go_upto_region 6 with (refine wpList_make_full _ rfl _ _ 52 rfl 0 2 i0 (.int .i64 0) 1 Try.underlying52 HI.out.1 HI.out.2.1 HI.out.2.2 .i64 .i64 _ _ 48 rfl rfl rfl rfl MM.out.1 MM.out.2 (Nat.zero_le _) ?_; intro wg hown hgr; have hkg : Keeps NoS wf wg := (Keeps.refl NoS wf).grown hgr (fun k hk => by cases hk); have HOW := Lib.hid hown; have HKG := Lib.hid hkg; have hLb : ∃ Lb, wf.heap.size = Lb := ⟨_, rfl⟩; clear hown hgr hkg)
    obtain ⟨Lb, hLb⟩ := hLb
    (try rw [hLb])
    rw [hLb] at HOW
    have hof := H4.out.fresh
    rw [hLb] at hof
    have hz : Zr wg Lb (List.replicate 48 0) := ⟨by
      have h := HOW.out
      have e : (madeCells (Value.int .i64 0).cells (48 * 1)).toList = intsV (List.replicate 48 0) := by kernel_rfl
      rwa [e] at h, by simp⟩
    have h5 := (H4.out.no HKG.out).no ((Keeps.refl NoS wg).drew)
    have hz' := hz.no ((Keeps.refl NoS wg).drew)
    have HOF := Lib.hid hof
    clear HOW hLb HKG hof H4 hz
    obtain ⟨lk, hlk, hlk2⟩ := modN l1 2 (by omega)
    obtain ⟨tt, htt, htt4⟩ := modN t1 4 (by omega)
    have hlw : IntKind.i64.wrap (lk : Int) = (lk : Int) := IntWalk.i64_in _ (by omega)
    have htw : IntKind.i64.wrap (tt : Int) = (tt : Int) := IntWalk.i64_in _ (by omega)
    refine wp_region_held_drew (S := (fun w' => (w'.cell? ⟨H, 0, none⟩ = some (.int .i64 t1) ∧ w'.cell? ⟨H, 1, none⟩ = some (.int .i64 l1) ∧ w'.cell? ⟨H, 2, none⟩ = some (.int .i64 s1) ∧ w'.cell? ⟨H, 3, none⟩ = some (.bool rd) ∧ w'.cell? ⟨H, 4, none⟩ = some (.int .i64 x1)))) (by kernel_rfl) (h5.tl.tl.b0.cells5) (fun hHeld => ?_)
    refine wpAnyH_take (i := 0) (v := ?_) (by simp only [List.getElem?_toArray, List.getElem?_cons_succ, List.getElem?_cons_zero]; rfl) (by kernel_rfl) (by kernel_rfl) (by kernel_rfl) (by exact fun _ _ _ h => h) (Or.inl ⟨by rfl, ?_⟩) hHeld ?_
    rotate_left
    · intro w hSw; (try dsimp only at hSw); go_simp; (try with_reducible rfl)
    try simp only [Act.put, List.setIfInBounds_toArray, List.set_cons_zero, List.set_cons_succ]
    refine wpAnyH_take (i := 1) (v := ?_) (by simp only [List.getElem?_toArray, List.getElem?_cons_succ, List.getElem?_cons_zero]; rfl) (by kernel_rfl) (by kernel_rfl) (by kernel_rfl) (by exact fun _ _ _ h => h) (Or.inl ⟨by rfl, ?_⟩) hHeld ?_
    rotate_left
    · intro w hSw; (try dsimp only at hSw); go_simp; (try with_reducible rfl)
    try simp only [Act.put, List.setIfInBounds_toArray, List.set_cons_zero, List.set_cons_succ]
    refine wpAnyH_take (i := 2) (v := ?_) (by simp only [List.getElem?_toArray, List.getElem?_cons_succ, List.getElem?_cons_zero]; rfl) (by kernel_rfl) (by kernel_rfl) (by kernel_rfl) (by exact fun _ _ _ h => h) (Or.inl ⟨by rfl, ?_⟩) hHeld ?_
    rotate_left
    · intro w hSw; (try dsimp only at hSw); go_simp; (try with_reducible rfl)
    try simp only [Act.put, List.setIfInBounds_toArray, List.set_cons_zero, List.set_cons_succ]
    refine wpAnyH_take (i := 3) (v := ?_) (by simp only [List.getElem?_toArray, List.getElem?_cons_succ, List.getElem?_cons_zero]; rfl) (by kernel_rfl) (by kernel_rfl) (by kernel_rfl) (by exact fun _ _ _ h => h) (Or.inl ⟨by rfl, ?_⟩) hHeld ?_
    rotate_left
    · intro w hSw; (try dsimp only at hSw); go_simp; (try with_reducible rfl)
    try simp only [Act.put, List.setIfInBounds_toArray, List.set_cons_zero, List.set_cons_succ]
    refine wpAnyH_take (i := 4) (v := ?_) (by simp only [List.getElem?_toArray, List.getElem?_cons_succ, List.getElem?_cons_zero]; rfl) (by kernel_rfl) (by kernel_rfl) (by kernel_rfl) (by exact fun _ _ _ h => h) (Or.inl ⟨by rfl, ?_⟩) hHeld ?_
    rotate_left
    · intro w hSw; (try dsimp only at hSw); go_simp; (try with_reducible rfl)
    try simp only [Act.put, List.setIfInBounds_toArray, List.set_cons_zero, List.set_cons_succ]
    refine wpAnyH_take (i := 5) (v := ?_) (by simp only [List.getElem?_toArray, List.getElem?_cons_succ, List.getElem?_cons_zero]; rfl) (by kernel_rfl) (by kernel_rfl) (by kernel_rfl) (by exact fun _ _ _ h => h) (Or.inl ⟨by rfl, ?_⟩) hHeld ?_
    rotate_left
    · intro w hSw; (try dsimp only at hSw); go_simp; (try with_reducible rfl)
    try simp only [Act.put, List.setIfInBounds_toArray, List.set_cons_zero, List.set_cons_succ]
    refine wpAnyH_take (i := 6) (v := ?_) (by simp only [List.getElem?_toArray, List.getElem?_cons_succ, List.getElem?_cons_zero]; rfl) (by kernel_rfl) (by kernel_rfl) (by kernel_rfl) (by exact fun _ _ _ h => h) (Or.inl ⟨by rfl, ?_⟩) hHeld ?_
    rotate_left
    · intro w hSw; (try dsimp only at hSw); go_simp; (try with_reducible rfl)
    try simp only [Act.put, List.setIfInBounds_toArray, List.set_cons_zero, List.set_cons_succ]
    refine wpAnyH_take (i := 7) (v := ?_) (by simp only [List.getElem?_toArray, List.getElem?_cons_succ, List.getElem?_cons_zero]; rfl) (by kernel_rfl) (by kernel_rfl) (by kernel_rfl) (by exact fun _ _ _ h => h) (Or.inl ⟨by rfl, ?_⟩) hHeld ?_
    rotate_left
    · intro w hSw; (try dsimp only at hSw); go_simp; (try with_reducible rfl)
    try simp only [Act.put, List.setIfInBounds_toArray, List.set_cons_zero, List.set_cons_succ]
    refine wpAnyH_take (i := 8) (v := ?_) (by simp only [List.getElem?_toArray, List.getElem?_cons_succ, List.getElem?_cons_zero]; rfl) (by kernel_rfl) (by kernel_rfl) (by kernel_rfl) (by exact fun _ _ _ h => h) (Or.inl ⟨by rfl, ?_⟩) hHeld ?_
    rotate_left
    · intro w hSw; (try dsimp only at hSw); go_simp; (try with_reducible rfl)
    try simp only [Act.put, List.setIfInBounds_toArray, List.set_cons_zero, List.set_cons_succ]
    refine wpAnyH_take (i := 9) (v := ?_) (by simp only [List.getElem?_toArray, List.getElem?_cons_succ, List.getElem?_cons_zero]; rfl) (by kernel_rfl) (by kernel_rfl) (by kernel_rfl) (by exact fun _ _ _ h => h) (Or.inl ⟨by rfl, ?_⟩) hHeld ?_
    rotate_left
    · intro w hSw; (try dsimp only at hSw); go_simp; (try with_reducible rfl)
    try simp only [Act.put, List.setIfInBounds_toArray, List.set_cons_zero, List.set_cons_succ]
    refine wpAnyH_take (i := 10) (v := ?_) (by simp only [List.getElem?_toArray, List.getElem?_cons_succ, List.getElem?_cons_zero]; rfl) (by kernel_rfl) (by kernel_rfl) (by kernel_rfl) (by exact fun _ _ _ h => h) (Or.inl ⟨by rfl, ?_⟩) hHeld ?_
    rotate_left
    · intro w hSw; (try dsimp only at hSw); go_simp; (try with_reducible rfl)
    try simp only [Act.put, List.setIfInBounds_toArray, List.set_cons_zero, List.set_cons_succ]
    refine wpAnyH_take (i := 11) (v := ?_) (by simp only [List.getElem?_toArray, List.getElem?_cons_succ, List.getElem?_cons_zero]; rfl) (by kernel_rfl) (by kernel_rfl) (by kernel_rfl) (by exact fun _ _ _ h => h) (Or.inl ⟨by rfl, ?_⟩) hHeld ?_
    rotate_left
    · intro w hSw; (try dsimp only at hSw); go_simp; (try with_reducible rfl)
    try simp only [Act.put, List.setIfInBounds_toArray, List.set_cons_zero, List.set_cons_succ]
    refine wpAnyH_done (by kernel_rfl) ?_ _
    generalize wg.drew = wg' at *
    have hlk3 : lk < 2 := by omega
    have htt3 : tt < 4 := by omega
    obtain ⟨t5, ht5, ht54⟩ : ∃ t5 : Nat, (IntKind.i64.wrap ((tt : Int) + 1)).tmod 4 = (t5 : Int) ∧ t5 < 4 := ⟨(tt + 1) % 4, tmod5 tt htt3, by omega⟩
    have HT5 := Lib.hid ht5
    clear ht5
    obtain ⟨a0, ha0, hb0⟩ : ∃ n : Nat, lockP ⟨2, 2, 4, 0, 2⟩ lk 0 = (n : Int) ∧ n < 48 := ⟨tlA lk, tlA_eq hlk3, tlA_lt hlk3⟩
    obtain ⟨a1, ha1, hb1, ha1r⟩ : ∃ n : Nat, lockP ⟨2, 2, 4, 0, 2⟩ lk 3 = (n : Int) ∧ n < 48 ∧ rdA lk = n := ⟨rdA lk, rdA_eq hlk3, rdA_lt hlk3, rfl⟩
    obtain ⟨a2, ha2, hb2⟩ : ∃ n : Nat, nodeP ⟨2, 2, 4, 0, 2⟩ tt lk 0 = (n : Int) ∧ n < 48 := ⟨ndA tt lk 0, ndA_eq htt3 hlk3 (p := 0) (by decide), ndA_lt htt3 hlk3 (by decide)⟩
    obtain ⟨a3, ha3, hb3⟩ : ∃ n : Nat, nodeP ⟨2, 2, 4, 0, 2⟩ tt lk 1 = (n : Int) ∧ n < 48 := ⟨ndA tt lk 1, ndA_eq htt3 hlk3 (p := 1) (by decide), ndA_lt htt3 hlk3 (by decide)⟩
    obtain ⟨a4, ha4, hb4⟩ : ∃ n : Nat, nodeP ⟨2, 2, 4, 0, 2⟩ t5 lk 0 = (n : Int) ∧ n < 48 := ⟨ndA t5 lk 0, ndA_eq ht54 hlk3 (p := 0) (by decide), ndA_lt ht54 hlk3 (by decide)⟩
    obtain ⟨a5, ha5, hb5⟩ : ∃ n : Nat, nodeP ⟨2, 2, 4, 0, 2⟩ t5 lk 1 = (n : Int) ∧ n < 48 := ⟨ndA t5 lk 1, ndA_eq ht54 hlk3 (p := 1) (by decide), ndA_lt ht54 hlk3 (by decide)⟩
    have HA0 := Lib.hid ha0; have HA1 := Lib.hid ha1; have HA2 := Lib.hid ha2; have HA3 := Lib.hid ha3; have HA4 := Lib.hid ha4; have HA5 := Lib.hid ha5; have HRA := Lib.hid ha1r
    have HLT := Lib.hid (six_lt hb0 hb1 hb2 hb3 hb4 hb5)
    have hlk0 : (0 : Int) ≤ (lk : Int) := by omega
    have htt0 : (0 : Int) ≤ (tt : Int) := by omega
    clear ha0 ha1 ha2 ha3 ha4 ha5 ha1r hb0 hb1 hb2 hb3 hb4 hb5 hlk htt hlw htw hHeld
    have H5 := Lib.hid h5; have HZ := Lib.hid hz'
    clear h5 hz'
    go_upto_region 7 with fail
    have h5 := H5.out.no ((Keeps.refl NoS _).drew)
    have hz' := HZ.out.no ((Keeps.refl NoS _).drew)
    clear H5 HZ
    refine wp_region_held_drew (S := (fun w' => (w'.cell? ⟨F, 0, none⟩ = some (.int .i64 2) ∧ w'.cell? ⟨F, 1, none⟩ = some (.int .i64 2) ∧ w'.cell? ⟨F, 2, none⟩ = some (.int .i64 4) ∧ w'.cell? ⟨F, 3, none⟩ = some (.int .i64 0) ∧ w'.cell? ⟨F, 4, none⟩ = some (.int .i64 2)))) (by kernel_rfl) (h5.b0.cells5) (fun hHeld => ?_)
    refine wpAnyH_take (i := 0) (v := ?_) (by simp only [List.getElem?_toArray, List.getElem?_cons_succ, List.getElem?_cons_zero]; rfl) (by kernel_rfl) (by kernel_rfl) (by kernel_rfl) (by exact fun _ _ _ h => h) (Or.inl ⟨by rfl, ?_⟩) hHeld ?_
    rotate_left
    · intro w hSw; (try dsimp only at hSw); go_simp; (try with_reducible rfl)
    try simp only [Act.put, List.setIfInBounds_toArray, List.set_cons_zero, List.set_cons_succ]
    refine wpAnyH_take (i := 1) (v := ?_) (by simp only [List.getElem?_toArray, List.getElem?_cons_succ, List.getElem?_cons_zero]; rfl) (by kernel_rfl) (by kernel_rfl) (by kernel_rfl) (by exact fun _ _ _ h => h) (Or.inl ⟨by rfl, ?_⟩) hHeld ?_
    rotate_left
    · intro w hSw; (try dsimp only at hSw); go_simp; (try with_reducible rfl)
    try simp only [Act.put, List.setIfInBounds_toArray, List.set_cons_zero, List.set_cons_succ]
    refine wpAnyH_take (i := 3) (v := ?_) (by simp only [List.getElem?_toArray, List.getElem?_cons_succ, List.getElem?_cons_zero]; rfl) (by kernel_rfl) (by kernel_rfl) (by kernel_rfl) (by exact fun _ _ _ h => h) (Or.inl ⟨by rfl, ?_⟩) hHeld ?_
    rotate_left
    · intro w hSw; (try dsimp only at hSw); go_simp; (try with_reducible rfl)
    try simp only [Act.put, List.setIfInBounds_toArray, List.set_cons_zero, List.set_cons_succ]
    refine wpAnyH_take (i := 4) (v := ?_) (by simp only [List.getElem?_toArray, List.getElem?_cons_succ, List.getElem?_cons_zero]; rfl) (by kernel_rfl) (by kernel_rfl) (by kernel_rfl) (by exact fun _ _ _ h => h) (Or.inl ⟨by rfl, ?_⟩) hHeld ?_
    rotate_left
    · intro w hSw; (try dsimp only at hSw); go_simp; (try with_reducible rfl)
    try simp only [Act.put, List.setIfInBounds_toArray, List.set_cons_zero, List.set_cons_succ]
    refine wpAnyH_take (i := 6) (v := ?_) (by simp only [List.getElem?_toArray, List.getElem?_cons_succ, List.getElem?_cons_zero]; rfl) (by kernel_rfl) (by kernel_rfl) (by kernel_rfl) (by exact fun _ _ _ h => h) (Or.inl ⟨by rfl, ?_⟩) hHeld ?_
    rotate_left
    · intro w hSw; (try dsimp only at hSw); go_simp; (try with_reducible rfl)
    try simp only [Act.put, List.setIfInBounds_toArray, List.set_cons_zero, List.set_cons_succ]
    refine wpAnyH_take (i := 7) (v := ?_) (by simp only [List.getElem?_toArray, List.getElem?_cons_succ, List.getElem?_cons_zero]; rfl) (by kernel_rfl) (by kernel_rfl) (by kernel_rfl) (by exact fun _ _ _ h => h) (Or.inl ⟨by rfl, ?_⟩) hHeld ?_
    rotate_left
    · intro w hSw; (try dsimp only at hSw); go_simp; (try with_reducible rfl)
    try simp only [Act.put, List.setIfInBounds_toArray, List.set_cons_zero, List.set_cons_succ]
    refine wpAnyH_take (i := 8) (v := ?_) (by simp only [List.getElem?_toArray, List.getElem?_cons_succ, List.getElem?_cons_zero]; rfl) (by kernel_rfl) (by kernel_rfl) (by kernel_rfl) (by exact fun _ _ _ h => h) (Or.inl ⟨by rfl, ?_⟩) hHeld ?_
    rotate_left
    · intro w hSw; (try dsimp only at hSw); go_simp; (try with_reducible rfl)
    try simp only [Act.put, List.setIfInBounds_toArray, List.set_cons_zero, List.set_cons_succ]
    refine wpAnyH_take (i := 10) (v := ?_) (by simp only [List.getElem?_toArray, List.getElem?_cons_succ, List.getElem?_cons_zero]; rfl) (by kernel_rfl) (by kernel_rfl) (by kernel_rfl) (by exact fun _ _ _ h => h) (Or.inl ⟨by rfl, ?_⟩) hHeld ?_
    rotate_left
    · intro w hSw; (try dsimp only at hSw); go_simp; (try with_reducible rfl)
    try simp only [Act.put, List.setIfInBounds_toArray, List.set_cons_zero, List.set_cons_succ]
    refine wpAnyH_take (i := 11) (v := ?_) (by simp only [List.getElem?_toArray, List.getElem?_cons_succ, List.getElem?_cons_zero]; rfl) (by kernel_rfl) (by kernel_rfl) (by kernel_rfl) (by exact fun _ _ _ h => h) (Or.inl ⟨by rfl, ?_⟩) hHeld ?_
    rotate_left
    · intro w hSw; (try dsimp only at hSw); go_simp; (try with_reducible rfl)
    try simp only [Act.put, List.setIfInBounds_toArray, List.set_cons_zero, List.set_cons_succ]
    refine wpAnyH_take (i := 12) (v := ?_) (by simp only [List.getElem?_toArray, List.getElem?_cons_succ, List.getElem?_cons_zero]; rfl) (by kernel_rfl) (by kernel_rfl) (by kernel_rfl) (by exact fun _ _ _ h => h) (Or.inl ⟨by rfl, ?_⟩) hHeld ?_
    rotate_left
    · intro w hSw; (try dsimp only at hSw); go_simp; (try with_reducible rfl)
    try simp only [Act.put, List.setIfInBounds_toArray, List.set_cons_zero, List.set_cons_succ]
    refine wpAnyH_take (i := 14) (v := ?_) (by simp only [List.getElem?_toArray, List.getElem?_cons_succ, List.getElem?_cons_zero]; rfl) (by kernel_rfl) (by kernel_rfl) (by kernel_rfl) (by exact fun _ _ _ h => h) (Or.inl ⟨by rfl, ?_⟩) hHeld ?_
    rotate_left
    · intro w hSw; (try dsimp only at hSw); go_simp; (try with_reducible rfl)
    try simp only [Act.put, List.setIfInBounds_toArray, List.set_cons_zero, List.set_cons_succ]
    refine wpAnyH_take (i := 15) (v := ?_) (by simp only [List.getElem?_toArray, List.getElem?_cons_succ, List.getElem?_cons_zero]; rfl) (by kernel_rfl) (by kernel_rfl) (by kernel_rfl) (by exact fun _ _ _ h => h) (Or.inl ⟨by rfl, ?_⟩) hHeld ?_
    rotate_left
    · intro w hSw; (try dsimp only at hSw); go_simp; (try with_reducible rfl)
    try simp only [Act.put, List.setIfInBounds_toArray, List.set_cons_zero, List.set_cons_succ]
    refine wpAnyH_take (i := 16) (v := ?_) (by simp only [List.getElem?_toArray, List.getElem?_cons_succ, List.getElem?_cons_zero]; rfl) (by kernel_rfl) (by kernel_rfl) (by kernel_rfl) (by exact fun _ _ _ h => h) (Or.inl ⟨by rfl, ?_⟩) hHeld ?_
    rotate_left
    · intro w hSw; (try dsimp only at hSw); go_simp; (try with_reducible rfl)
    try simp only [Act.put, List.setIfInBounds_toArray, List.set_cons_zero, List.set_cons_succ]
    refine wpAnyH_take (i := 17) (v := ?_) (by simp only [List.getElem?_toArray, List.getElem?_cons_succ, List.getElem?_cons_zero]; rfl) (by kernel_rfl) (by kernel_rfl) (by kernel_rfl) (by exact fun _ _ _ h => h) (Or.inl ⟨by rfl, ?_⟩) hHeld ?_
    rotate_left
    · intro w hSw; (try dsimp only at hSw); go_simp; (try with_reducible rfl)
    try simp only [Act.put, List.setIfInBounds_toArray, List.set_cons_zero, List.set_cons_succ]
    refine wpAnyH_take (i := 18) (v := ?_) (by simp only [List.getElem?_toArray, List.getElem?_cons_succ, List.getElem?_cons_zero]; rfl) (by kernel_rfl) (by kernel_rfl) (by kernel_rfl) (by exact fun _ _ _ h => h) (Or.inl ⟨by rfl, ?_⟩) hHeld ?_
    rotate_left
    · intro w hSw; (try dsimp only at hSw); go_simp; (try with_reducible rfl)
    try simp only [Act.put, List.setIfInBounds_toArray, List.set_cons_zero, List.set_cons_succ]
    refine wpAnyH_take (i := 20) (v := ?_) (by simp only [List.getElem?_toArray, List.getElem?_cons_succ, List.getElem?_cons_zero]; rfl) (by kernel_rfl) (by kernel_rfl) (by kernel_rfl) (by exact fun _ _ _ h => h) (Or.inl ⟨by rfl, ?_⟩) hHeld ?_
    rotate_left
    · intro w hSw; (try dsimp only at hSw); go_simp; (try with_reducible rfl)
    try simp only [Act.put, List.setIfInBounds_toArray, List.set_cons_zero, List.set_cons_succ]
    refine wpAnyH_take (i := 21) (v := ?_) (by simp only [List.getElem?_toArray, List.getElem?_cons_succ, List.getElem?_cons_zero]; rfl) (by kernel_rfl) (by kernel_rfl) (by kernel_rfl) (by exact fun _ _ _ h => h) (Or.inl ⟨by rfl, ?_⟩) hHeld ?_
    rotate_left
    · intro w hSw; (try dsimp only at hSw); go_simp; (try with_reducible rfl)
    try simp only [Act.put, List.setIfInBounds_toArray, List.set_cons_zero, List.set_cons_succ]
    refine wpAnyH_take (i := 22) (v := ?_) (by simp only [List.getElem?_toArray, List.getElem?_cons_succ, List.getElem?_cons_zero]; rfl) (by kernel_rfl) (by kernel_rfl) (by kernel_rfl) (by exact fun _ _ _ h => h) (Or.inl ⟨by rfl, ?_⟩) hHeld ?_
    rotate_left
    · intro w hSw; (try dsimp only at hSw); go_simp; (try with_reducible rfl)
    try simp only [Act.put, List.setIfInBounds_toArray, List.set_cons_zero, List.set_cons_succ]
    refine wpAnyH_take (i := 23) (v := ?_) (by simp only [List.getElem?_toArray, List.getElem?_cons_succ, List.getElem?_cons_zero]; rfl) (by kernel_rfl) (by kernel_rfl) (by kernel_rfl) (by exact fun _ _ _ h => h) (Or.inl ⟨by rfl, ?_⟩) hHeld ?_
    rotate_left
    · intro w hSw; (try dsimp only at hSw); go_simp; (try with_reducible rfl)
    try simp only [Act.put, List.setIfInBounds_toArray, List.set_cons_zero, List.set_cons_succ]
    refine wpAnyH_take (i := 24) (v := ?_) (by simp only [List.getElem?_toArray, List.getElem?_cons_succ, List.getElem?_cons_zero]; rfl) (by kernel_rfl) (by kernel_rfl) (by kernel_rfl) (by exact fun _ _ _ h => h) (Or.inl ⟨by rfl, ?_⟩) hHeld ?_
    rotate_left
    · intro w hSw; (try dsimp only at hSw); go_simp; (try with_reducible rfl)
    try simp only [Act.put, List.setIfInBounds_toArray, List.set_cons_zero, List.set_cons_succ]
    refine wpAnyH_ready (rs := [2]) (by kernel_rfl) (by simp) ?_
    refine AllReadyH.cons (by simp only [List.getElem?_toArray, List.getElem?_cons_succ, List.getElem?_cons_zero]; rfl) (fun kC hkC => ?_) AllReadyH.nil
    go_simp
    refine (rlock_lit 2 2 4 0 2 lk 0 _ HA0.out _).mono ?_; rintro e y0 ⟨rfl, hkk⟩; have h5 := h5.no hkk; have hz' := hz'.no hkk; clear hkk
    (try go_wp2_with fail)
    refine hkC.out _ _ (h5.b0.cells5) (fun hHeld => ?_)
    clear hkC kC
    try simp only [Act.put, List.setIfInBounds_toArray, List.set_cons_zero, List.set_cons_succ]
    refine wpAnyH_ready (rs := [5]) (by kernel_rfl) (by simp) ?_
    refine AllReadyH.cons (by simp only [List.getElem?_toArray, List.getElem?_cons_succ, List.getElem?_cons_zero]; rfl) (fun kC hkC => ?_) AllReadyH.nil
    go_simp
    refine (rlock_lit 2 2 4 0 2 lk 3 _ HA1.out _).mono ?_; rintro e y1 ⟨rfl, hkk⟩; have h5 := h5.no hkk; have hz' := hz'.no hkk; clear hkk
    (try go_wp2_with fail)
    refine hkC.out _ _ (h5.b0.cells5) (fun hHeld => ?_)
    clear hkC kC
    try simp only [Act.put, List.setIfInBounds_toArray, List.set_cons_zero, List.set_cons_succ]
    refine wpAnyH_ready (rs := [9]) (by kernel_rfl) (by simp) ?_
    refine AllReadyH.cons (by simp only [List.getElem?_toArray, List.getElem?_cons_succ, List.getElem?_cons_zero]; rfl) (fun kC hkC => ?_) AllReadyH.nil
    go_simp
    refine (rnode_lit 2 2 4 0 2 tt lk 0 _ HA2.out _).mono ?_; rintro e y2 ⟨rfl, hkk⟩; have h5 := h5.no hkk; have hz' := hz'.no hkk; clear hkk
    (try go_wp2_with fail)
    refine hkC.out _ _ (h5.b0.cells5) (fun hHeld => ?_)
    clear hkC kC
    try simp only [Act.put, List.setIfInBounds_toArray, List.set_cons_zero, List.set_cons_succ]
    refine wpAnyH_ready (rs := [13]) (by kernel_rfl) (by simp) ?_
    refine AllReadyH.cons (by simp only [List.getElem?_toArray, List.getElem?_cons_succ, List.getElem?_cons_zero]; rfl) (fun kC hkC => ?_) AllReadyH.nil
    go_simp
    refine (rnode_lit 2 2 4 0 2 tt lk 1 _ HA3.out _).mono ?_; rintro e y3 ⟨rfl, hkk⟩; have h5 := h5.no hkk; have hz' := hz'.no hkk; clear hkk
    (try go_wp2_with fail)
    refine hkC.out _ _ (h5.b0.cells5) (fun hHeld => ?_)
    clear hkC kC
    try simp only [Act.put, List.setIfInBounds_toArray, List.set_cons_zero, List.set_cons_succ]
    refine wpAnyH_ready (rs := [19]) (by kernel_rfl) (by simp) ?_
    refine AllReadyH.cons (by simp only [List.getElem?_toArray, List.getElem?_cons_succ, List.getElem?_cons_zero]; rfl) (fun kC hkC => ?_) AllReadyH.nil
    go_simp
    (try rw [HT5.out]); refine (rnode_lit 2 2 4 0 2 t5 lk 0 _ HA4.out _).mono ?_; rintro e y4 ⟨rfl, hkk⟩; have h5 := h5.no hkk; have hz' := hz'.no hkk; clear hkk
    (try go_wp2_with fail)
    refine hkC.out _ _ (h5.b0.cells5) (fun hHeld => ?_)
    clear hkC kC
    try simp only [Act.put, List.setIfInBounds_toArray, List.set_cons_zero, List.set_cons_succ]
    refine wpAnyH_ready (rs := [25]) (by kernel_rfl) (by simp) ?_
    refine AllReadyH.cons (by simp only [List.getElem?_toArray, List.getElem?_cons_succ, List.getElem?_cons_zero]; rfl) (fun kC hkC => ?_) AllReadyH.nil
    go_simp
    (try rw [HT5.out]); refine (rnode_lit 2 2 4 0 2 t5 lk 1 _ HA5.out _).mono ?_; rintro e y5 ⟨rfl, hkk⟩; have h5 := h5.no hkk; have hz' := hz'.no hkk; clear hkk
    (try go_wp2_with fail)
    refine hkC.out _ _ (h5.b0.cells5) (fun hHeld => ?_)
    clear hkC kC
    try simp only [Act.put, List.setIfInBounds_toArray, List.set_cons_zero, List.set_cons_succ]
    refine wpAnyH_ready (rs := [26]) (by kernel_rfl) (by simp) ?_
    refine AllReadyH.cons (by simp only [List.getElem?_toArray, List.getElem?_cons_succ, List.getElem?_cons_zero]; rfl) (fun kC hkC => ?_) AllReadyH.nil
    go_simp
    refine hkC.out _ _ ((h5.no ((Keeps.refl NoS _).alloc _)).b0.cells5) (fun hHeld => ?_)
    clear hkC kC
    try simp only [Act.put, List.setIfInBounds_toArray, List.set_cons_zero, List.set_cons_succ]
    refine wpAnyH_take (i := 27) (v := ?_) (by simp only [List.getElem?_toArray, List.getElem?_cons_succ, List.getElem?_cons_zero]; rfl) (by kernel_rfl) (by kernel_rfl) (by kernel_rfl) (by exact fun _ _ _ h => h) (Or.inl ⟨by rfl, ?_⟩) hHeld ?_
    rotate_left
    · intro w hSw; (try dsimp only at hSw); go_simp; (try with_reducible rfl)
    try simp only [Act.put, List.setIfInBounds_toArray, List.set_cons_zero, List.set_cons_succ]
    refine wpAnyH_done (by kernel_rfl) ?_ _
    have h5' := h5.new #[.int .i64 (a0 : Nat), .int .i64 (a1 : Nat), .int .i64 (a2 : Nat), .int .i64 (a3 : Nat), .int .i64 (a4 : Nat), .int .i64 (a5 : Nat)] 3
    have hz2 := hz'.no ((Keeps.refl NoS _).alloc (.cells #[.int .i64 (a0 : Nat), .int .i64 (a1 : Nat), .int .i64 (a2 : Nat), .int .i64 (a3 : Nat), .int .i64 (a4 : Nat), .int .i64 (a5 : Nat)] 3))
    have hofA := hz'.lt
    have hof2 := HOF.out
    go_upto_region 9 with fail
    obtain ⟨At, hAt⟩ : ∃ z, y5.heap.size = z := ⟨_, rfl⟩
    rw [hAt] at h5' hofA
    (try rw [hAt])
    generalize y5.alloc (.cells #[.int .i64 (a0 : Nat), .int .i64 (a1 : Nat), .int .i64 (a2 : Nat), .int .i64 (a3 : Nat), .int .i64 (a4 : Nat), .int .i64 (a5 : Nat)] 3) = wl at *
    have hof3 : Off w [(At, 3, #[.int .i64 (a0 : Nat), .int .i64 (a1 : Nat), .int .i64 (a2 : Nat), .int .i64 (a3 : Nat), .int .i64 (a4 : Nat), .int .i64 (a5 : Nat)]), (F, 54, #[.int .i64 2, .int .i64 2, .int .i64 4, .int .i64 0, .int .i64 2]), (B, 24, #[.int .i64 2, .int .i64 2, .int .i64 4, .int .i64 0, .int .i64 2]), (H, 37, #[.int .i64 t1, .int .i64 l1, .int .i64 s1, .bool rd, .int .i64 x1]), (Wd, 76, #[.int .i64 z0, .int .i64 z1, .int .i64 z2, .int .i64 z3, .int .i64 z4, .int .i64 z5])] Lb := ⟨hof2.1, fun x hx => (List.mem_cons.1 hx).elim (fun e => by rw [e]; show At ≠ Lb; omega) (hof2.2 x)⟩
    have HB := Lib.hid h5'; have HZ := Lib.hid hz2; have HOF2 := Lib.hid hof3
    clear h5 hz' hHeld h5' hz2 hof2 hof3 hofA hAt HOF
    go_loopw [15] (fun iv wq => ∃ (k : Nat) (zs : List Int), k ≤ 6 ∧ iv = .int .i64 k ∧ Bg w wq [(At, 3, #[.int .i64 (a0 : Nat), .int .i64 (a1 : Nat), .int .i64 (a2 : Nat), .int .i64 (a3 : Nat), .int .i64 (a4 : Nat), .int .i64 (a5 : Nat)]), (F, 54, #[.int .i64 2, .int .i64 2, .int .i64 4, .int .i64 0, .int .i64 2]), (B, 24, #[.int .i64 2, .int .i64 2, .int .i64 4, .int .i64 0, .int .i64 2]), (H, 37, #[.int .i64 t1, .int .i64 l1, .int .i64 s1, .bool rd, .int .i64 x1]), (Wd, 76, #[.int .i64 z0, .int .i64 z1, .int .i64 z2, .int .i64 z3, .int .i64 z4, .int .i64 z5])] ∧ Zr wq Lb zs) (fun iv _ => 6 - (intOf iv).toNat)
    case atStart => exact ⟨0, _, by omega, rfl, HB.out, HZ.out⟩
    case round =>
      obtain ⟨k, zs, hk, rfl, hb, hz⟩ := hrel
      have HB' := Lib.hid hb; have HZ' := Lib.hid hz
      clear hb hz HB HZ
      by_cases hlt : k < 6
      · have hbD := HB'.out.no ((Keeps.refl NoS _).drew)
        have hzD := HZ'.out.no ((Keeps.refl NoS _).drew)
        have ca := six_cell hbD.b0 k hlt
        have cw := sixI_cell hbD.tl.tl.tl.tl.b0 k hlt
        have hal := HLT.out k
        generalize six a0 a1 a2 a3 a4 a5 k = ak at *
        generalize sixI z0 z1 z2 z3 z4 z5 k = zk at *
        have k0 : (0 : Int) ≤ (k : Int) := by omega
        have k6 : (k : Int) < 6 := by omega
        have n0 : (0 : Int) ≤ (ak : Int) := by omega
        have n1 : (ak : Int) < 48 := by omega
        have yc := hzD.cell hal
        have yf := hzD.free ak
        have yl := hzD.lt
        have HC := Lib.hid (And.intro hbD hzD)
        clear hbD hzD
        go_upto_region 11 with fail
        refine wp_region_kept_drew 12 (fun w' => w'.cell? ⟨At, k, none⟩ = some (.int .i64 (ak : Nat)) ∧ w'.cell? ⟨Wd, k, none⟩ = some (.int .i64 zk)) 12 (fun _ => True) (by kernel_rfl) (⟨ca, cw⟩) (trivial) (fun hK => ?_)
        refine wpAnyK_take1 (i := 0) (v := ?_) (by simp only [List.getElem?_toArray, List.getElem?_cons_succ, List.getElem?_cons_zero]; rfl) (by kernel_rfl) (by kernel_rfl) (by kernel_rfl) (by kernel_rfl) (by kernel_rfl) (by kernel_rfl) (by exact fun _ _ _ h => h) (Or.inl ⟨by rfl, ?_⟩) (hK _) ?_
        rotate_left
        · intro w hSw; (try dsimp only at hSw); go_simp; (try with_reducible rfl)
        try simp only [Act.put, List.setIfInBounds_toArray, List.set_cons_zero, List.set_cons_succ]
        refine wpAnyK_take1 (i := 1) (v := ?_) (by simp only [List.getElem?_toArray, List.getElem?_cons_succ, List.getElem?_cons_zero]; rfl) (by kernel_rfl) (by kernel_rfl) (by kernel_rfl) (by kernel_rfl) (by kernel_rfl) (by kernel_rfl) (by exact fun _ _ _ h => h) (Or.inl ⟨by rfl, ?_⟩) (hK _) ?_
        rotate_left
        · intro w hSw; (try dsimp only at hSw); go_simp; (try with_reducible rfl)
        try simp only [Act.put, List.setIfInBounds_toArray, List.set_cons_zero, List.set_cons_succ]
        refine wpAnyK_take1 (i := 2) (v := ?_) (by simp only [List.getElem?_toArray, List.getElem?_cons_succ, List.getElem?_cons_zero]; rfl) (by kernel_rfl) (by kernel_rfl) (by kernel_rfl) (by kernel_rfl) (by kernel_rfl) (by kernel_rfl) (by exact fun _ _ _ h => h) (Or.inl ⟨by rfl, ?_⟩) (hK _) ?_
        rotate_left
        · intro w hSw; (try dsimp only at hSw); go_simp; (try with_reducible rfl)
        try simp only [Act.put, List.setIfInBounds_toArray, List.set_cons_zero, List.set_cons_succ]
        refine wpAnyK_take1 (i := 3) (v := ?_) (by simp only [List.getElem?_toArray, List.getElem?_cons_succ, List.getElem?_cons_zero]; rfl) (by kernel_rfl) (by kernel_rfl) (by kernel_rfl) (by kernel_rfl) (by kernel_rfl) (by kernel_rfl) (by exact fun _ _ _ h => h) (Or.inl ⟨by rfl, ?_⟩) (hK _) ?_
        rotate_left
        · intro w hSw; (try dsimp only at hSw); go_simp; (try with_reducible rfl)
        try simp only [Act.put, List.setIfInBounds_toArray, List.set_cons_zero, List.set_cons_succ]
        refine wpAnyK_take1 (i := 4) (v := ?_) (by simp only [List.getElem?_toArray, List.getElem?_cons_succ, List.getElem?_cons_zero]; rfl) (by kernel_rfl) (by kernel_rfl) (by kernel_rfl) (by kernel_rfl) (by kernel_rfl) (by kernel_rfl) (by exact fun _ _ _ h => h) (Or.inl ⟨by rfl, ?_⟩) (hK _) ?_
        rotate_left
        · intro w hSw; (try dsimp only at hSw); go_simp; (try with_reducible rfl)
        try simp only [Act.put, List.setIfInBounds_toArray, List.set_cons_zero, List.set_cons_succ]
        refine wpAnyK_take1 (i := 5) (v := ?_) (by simp only [List.getElem?_toArray, List.getElem?_cons_succ, List.getElem?_cons_zero]; rfl) (by kernel_rfl) (by kernel_rfl) (by kernel_rfl) (by kernel_rfl) (by kernel_rfl) (by kernel_rfl) (by exact fun _ _ _ h => h) (Or.inl ⟨by rfl, ?_⟩) (hK _) ?_
        rotate_left
        · intro w hSw; (try dsimp only at hSw); go_simp; (try with_reducible rfl)
        try simp only [Act.put, List.setIfInBounds_toArray, List.set_cons_zero, List.set_cons_succ]
        refine wpAnyK_take1 (i := 6) (v := ?_) (by simp only [List.getElem?_toArray, List.getElem?_cons_succ, List.getElem?_cons_zero]; rfl) (by kernel_rfl) (by kernel_rfl) (by kernel_rfl) (by kernel_rfl) (by kernel_rfl) (by kernel_rfl) (by exact fun _ _ _ h => h) (Or.inl ⟨by rfl, ?_⟩) (hK _) ?_
        rotate_left
        · intro w hSw; (try dsimp only at hSw); go_simp; (try with_reducible rfl)
        try simp only [Act.put, List.setIfInBounds_toArray, List.set_cons_zero, List.set_cons_succ]
        refine wpAnyK_take1 (i := 7) (v := ?_) (by simp only [List.getElem?_toArray, List.getElem?_cons_succ, List.getElem?_cons_zero]; rfl) (by kernel_rfl) (by kernel_rfl) (by kernel_rfl) (by kernel_rfl) (by kernel_rfl) (by kernel_rfl) (by exact fun _ _ _ h => h) (Or.inl ⟨by rfl, ?_⟩) (hK _) ?_
        rotate_left
        · intro w hSw; (try dsimp only at hSw); go_simp; (try with_reducible rfl)
        try simp only [Act.put, List.setIfInBounds_toArray, List.set_cons_zero, List.set_cons_succ]
        refine wpAnyK_take1 (i := 8) (v := ?_) (by simp only [List.getElem?_toArray, List.getElem?_cons_succ, List.getElem?_cons_zero]; rfl) (by kernel_rfl) (by kernel_rfl) (by kernel_rfl) (by kernel_rfl) (by kernel_rfl) (by kernel_rfl) (by exact fun _ _ _ h => h) (Or.inl ⟨by rfl, ?_⟩) (hK _) ?_
        rotate_left
        · intro w hSw; (try dsimp only at hSw); go_simp; (try with_reducible rfl)
        try simp only [Act.put, List.setIfInBounds_toArray, List.set_cons_zero, List.set_cons_succ]
        refine wpAnyK_take1 (i := 9) (v := ?_) (by simp only [List.getElem?_toArray, List.getElem?_cons_succ, List.getElem?_cons_zero]; rfl) (by kernel_rfl) (by kernel_rfl) (by kernel_rfl) (by kernel_rfl) (by kernel_rfl) (by kernel_rfl) (by exact fun _ _ _ h => h) (Or.inl ⟨by rfl, ?_⟩) (hK _) ?_
        rotate_left
        · intro w hSw; (try dsimp only at hSw); go_simp; (try with_reducible rfl)
        try simp only [Act.put, List.setIfInBounds_toArray, List.set_cons_zero, List.set_cons_succ]
        refine wpAnyK_take1 (i := 10) (v := ?_) (by simp only [List.getElem?_toArray, List.getElem?_cons_succ, List.getElem?_cons_zero]; rfl) (by kernel_rfl) (by kernel_rfl) (by kernel_rfl) (by kernel_rfl) (by kernel_rfl) (by kernel_rfl) (by exact fun _ _ _ h => h) (Or.inl ⟨by rfl, ?_⟩) (hK _) ?_
        rotate_left
        · intro w hSw; (try dsimp only at hSw); go_simp; (try with_reducible rfl)
        try simp only [Act.put, List.setIfInBounds_toArray, List.set_cons_zero, List.set_cons_succ]
        refine wpAnyK_take1 (i := 11) (v := ?_) (by simp only [List.getElem?_toArray, List.getElem?_cons_succ, List.getElem?_cons_zero]; rfl) (by kernel_rfl) (by kernel_rfl) (by kernel_rfl) (by kernel_rfl) (by kernel_rfl) (by kernel_rfl) (by exact fun _ _ _ h => h) (Or.inl ⟨by rfl, ?_⟩) (hK _) ?_
        rotate_left
        · intro w hSw; (try dsimp only at hSw); go_simp; (try with_reducible rfl)
        try simp only [Act.put, List.setIfInBounds_toArray, List.set_cons_zero, List.set_cons_succ]
        refine wpAnyK_last (i := 12) (by kernel_rfl) (by simp only [List.getElem?_toArray, List.getElem?_cons_succ, List.getElem?_cons_zero]; rfl) (by kernel_rfl) (by kernel_rfl) (fun kC hkC => ?_)
        go_simp
        refine hkC.out _ _ ?_
        clear hkC kC
        try simp only [Act.put, List.setIfInBounds_toArray, List.set_cons_zero, List.set_cons_succ]
        refine wpAnyK_done (by kernel_rfl) ?_ _
        go_wp2_with fail
        go_roundw
        case rel => exact ⟨k + 1, _, by omega, by go_num, (HB'.out.far HOF2.out ((Keeps.refl (just Lb) wr).setCell (p := ⟨Lb, ak, none⟩) (fun _ => rfl) _)).no ((Keeps.refl NoS _).drew), (HZ'.out.put ak _).no ((Keeps.refl NoS _).drew)⟩
        case measure => simp [intOf]; omega
      · obtain rfl : k = 6 := by omega
        have hzl := HZ'.out.ln
        have HZL := Lib.hid hzl
        clear hzl
        go_upto_region 15 with (first
          | (go_at_call 30; refine (new_someN Lb 0 48 48 zs wr HZL.out (by decide) (by decide) (fun k hk => by rw [Nat.zero_add]; exact HZ'.out.cell hk)).mono ?_; rintro e w4 ⟨a, v, rfl, hm, ha, hv, hkm⟩; have M4 := Lib.hid (And.intro hm (And.intro ha (And.intro hv hkm))); clear hm ha hv hkm)
          | (go_at_call 31; refine (rnew_someN Lb 0 48 48 zs w4 HZL.out (by decide) (by decide) (fun k hk => by rw [Nat.zero_add]; exact (HZ'.out.no M4.out.2.2.2).cell hk)).mono ?_; rintro e w5 ⟨c, u, rfl, hm, ha, hv, hkm⟩; have M5 := Lib.hid (And.intro hm (And.intro ha (And.intro hv hkm))); clear hm ha hv hkm))
        obtain ⟨M, hM⟩ : ∃ M, MemS.new zs = M := ⟨_, rfl⟩
        have hl48 : M.L.length = 48 := by rw [← hM]; exact HZL.out
        rw [hM] at M4 M5
        have hb1 := HB'.out.mono (l' := [(F, 54, #[.int .i64 2, .int .i64 2, .int .i64 4, .int .i64 0, .int .i64 2]), (B, 24, #[.int .i64 2, .int .i64 2, .int .i64 4, .int .i64 0, .int .i64 2]), (H, 37, #[.int .i64 t1, .int .i64 l1, .int .i64 s1, .bool rd, .int .i64 x1]), (At, 3, #[.int .i64 (a0 : Nat), .int .i64 (a1 : Nat), .int .i64 (a2 : Nat), .int .i64 (a3 : Nat), .int .i64 (a4 : Nat), .int .i64 (a5 : Nat)])]) (fun x hx => by
          rcases List.mem_cons.1 hx with e | hx
          · rw [e]; exact List.mem_cons_of_mem _ (List.mem_cons_self ..)
          rcases List.mem_cons.1 hx with e | hx
          · rw [e]; exact List.mem_cons_of_mem _ (List.mem_cons_of_mem _ (List.mem_cons_self ..))
          rcases List.mem_cons.1 hx with e | hx
          · rw [e]; exact List.mem_cons_of_mem _ (List.mem_cons_of_mem _ (List.mem_cons_of_mem _ (List.mem_cons_self ..)))
          rcases List.mem_cons.1 hx with e | hx
          · rw [e]; exact List.mem_cons_self ..
          · cases hx)
        have hbg := (hb1.no M4.out.2.2.2).no M5.out.2.2.2
        have hmi := fresh_in hb1.kp M4.out.1 M4.out.2.1 M4.out.2.2.1 M4.out.2.2.2
        have htw := TwoT.make hmi M5.out.1 M5.out.2.1 M5.out.2.2.1 M5.out.2.2.2
        have hS : Sc w w5 a c v u M M [(F, 54, #[.int .i64 2, .int .i64 2, .int .i64 4, .int .i64 0, .int .i64 2]), (B, 24, #[.int .i64 2, .int .i64 2, .int .i64 4, .int .i64 0, .int .i64 2]), (H, 37, #[.int .i64 t1, .int .i64 l1, .int .i64 s1, .bool rd, .int .i64 x1]), (At, 3, #[.int .i64 (a0 : Nat), .int .i64 (a1 : Nat), .int .i64 (a2 : Nat), .int .i64 (a3 : Nat), .int .i64 (a4 : Nat), .int .i64 (a5 : Nat)])] := ⟨htw, hbg, fun x hx => by
          have hlt := hb1.lt hx
          exact ⟨not_own (fun e => by have := M4.out.2.1; omega) (fun e => by have := M4.out.2.2.1 _ e; omega), not_own (fun e => by have := M5.out.2.1; have := M4.out.2.2.2.size; omega) (fun e => by have := M5.out.2.2.1 _ e; have := M4.out.2.2.2.size; omega)⟩⟩
        have HS := Lib.hid hS; have HL := Lib.hid hl48
        clear hS hl48 hM hbg hmi htw M4 M5 HZ' HZL HB' HOF2 hb1
        have hS := HS.out.no ((Keeps.refl NoS _).drew)
        clear HS
        refine wp_region_held_drew (S := (fun w' => (w'.cell? ⟨F, 0, none⟩ = some (.int .i64 2) ∧ w'.cell? ⟨F, 1, none⟩ = some (.int .i64 2) ∧ w'.cell? ⟨F, 2, none⟩ = some (.int .i64 4) ∧ w'.cell? ⟨F, 3, none⟩ = some (.int .i64 0) ∧ w'.cell? ⟨F, 4, none⟩ = some (.int .i64 2)) ∧ (w'.cell? ⟨B, 0, none⟩ = some (.int .i64 2) ∧ w'.cell? ⟨B, 1, none⟩ = some (.int .i64 2) ∧ w'.cell? ⟨B, 2, none⟩ = some (.int .i64 4) ∧ w'.cell? ⟨B, 3, none⟩ = some (.int .i64 0) ∧ w'.cell? ⟨B, 4, none⟩ = some (.int .i64 2)) ∧ (w'.cell? ⟨H, 0, none⟩ = some (.int .i64 t1) ∧ w'.cell? ⟨H, 1, none⟩ = some (.int .i64 l1) ∧ w'.cell? ⟨H, 2, none⟩ = some (.int .i64 s1) ∧ w'.cell? ⟨H, 3, none⟩ = some (.bool rd) ∧ w'.cell? ⟨H, 4, none⟩ = some (.int .i64 x1)))) (by kernel_rfl) (ak_keep3 hS) (fun hHeld => ?_)
        generalize w5.drew = wq at *
        apply wpAnyH_dag2 (R := (fun (g1 : Nat) (g2 : Nat) (wq : World) => (Sc w wq a c v u M M [(F, 54, #[.int .i64 2, .int .i64 2, .int .i64 4, .int .i64 0, .int .i64 2]), (B, 24, #[.int .i64 2, .int .i64 2, .int .i64 4, .int .i64 0, .int .i64 2]), (H, 37, #[.int .i64 t1, .int .i64 l1, .int .i64 s1, .bool rd, .int .i64 x1]), (At, 3, #[.int .i64 (a0 : Nat), .int .i64 (a1 : Nat), .int .i64 (a2 : Nat), .int .i64 (a3 : Nat), .int .i64 (a4 : Nat), .int .i64 (a5 : Nat)])]) ∧ (Blk wq g1 37 #[.int .i64 t1, .int .i64 l1, .int .i64 s1, .bool rd, .int .i64 x1]) ∧ (Blk wq g2 37 #[.int .i64 t1, .int .i64 l1, .int .i64 s1, .bool rd, .int .i64 x1]) ∧ (OffO w [(F, 54, #[.int .i64 2, .int .i64 2, .int .i64 4, .int .i64 0, .int .i64 2]), (B, 24, #[.int .i64 2, .int .i64 2, .int .i64 4, .int .i64 0, .int .i64 2]), (H, 37, #[.int .i64 t1, .int .i64 l1, .int .i64 s1, .bool rd, .int .i64 x1]), (At, 3, #[.int .i64 (a0 : Nat), .int .i64 (a1 : Nat), .int .i64 (a2 : Nat), .int .i64 (a3 : Nat), .int .i64 (a4 : Nat), .int .i64 (a5 : Nat)])] a c v u g1) ∧ (OffO w [(F, 54, #[.int .i64 2, .int .i64 2, .int .i64 4, .int .i64 0, .int .i64 2]), (B, 24, #[.int .i64 2, .int .i64 2, .int .i64 4, .int .i64 0, .int .i64 2]), (H, 37, #[.int .i64 t1, .int .i64 l1, .int .i64 s1, .bool rd, .int .i64 x1]), (At, 3, #[.int .i64 (a0 : Nat), .int .i64 (a1 : Nat), .int .i64 (a2 : Nat), .int .i64 (a3 : Nat), .int .i64 (a4 : Nat), .int .i64 (a5 : Nat)])] a c v u g2) ∧ (g1 ≠ g2)))
        · intro hD0
          apply wpAnyH_dag2 (R := (fun (g1 : Nat) (g2 : Nat) (wq : World) => (Sc w wq a c v u M M [(F, 54, #[.int .i64 2, .int .i64 2, .int .i64 4, .int .i64 0, .int .i64 2]), (B, 24, #[.int .i64 2, .int .i64 2, .int .i64 4, .int .i64 0, .int .i64 2]), (H, 37, #[.int .i64 t1, .int .i64 l1, .int .i64 s1, .bool rd, .int .i64 x1]), (At, 3, #[.int .i64 (a0 : Nat), .int .i64 (a1 : Nat), .int .i64 (a2 : Nat), .int .i64 (a3 : Nat), .int .i64 (a4 : Nat), .int .i64 (a5 : Nat)])]) ∧ (Blk wq g1 37 #[.int .i64 t1, .int .i64 l1, .int .i64 s1, .bool rd, .int .i64 x1]) ∧ (Blk wq g2 37 #[.int .i64 0, .int .i64 0, .int .i64 0, .bool false, .int .i64 0]) ∧ (OffO w [(F, 54, #[.int .i64 2, .int .i64 2, .int .i64 4, .int .i64 0, .int .i64 2]), (B, 24, #[.int .i64 2, .int .i64 2, .int .i64 4, .int .i64 0, .int .i64 2]), (H, 37, #[.int .i64 t1, .int .i64 l1, .int .i64 s1, .bool rd, .int .i64 x1]), (At, 3, #[.int .i64 (a0 : Nat), .int .i64 (a1 : Nat), .int .i64 (a2 : Nat), .int .i64 (a3 : Nat), .int .i64 (a4 : Nat), .int .i64 (a5 : Nat)])] a c v u g1) ∧ (OffO w [(F, 54, #[.int .i64 2, .int .i64 2, .int .i64 4, .int .i64 0, .int .i64 2]), (B, 24, #[.int .i64 2, .int .i64 2, .int .i64 4, .int .i64 0, .int .i64 2]), (H, 37, #[.int .i64 t1, .int .i64 l1, .int .i64 s1, .bool rd, .int .i64 x1]), (At, 3, #[.int .i64 (a0 : Nat), .int .i64 (a1 : Nat), .int .i64 (a2 : Nat), .int .i64 (a3 : Nat), .int .i64 (a4 : Nat), .int .i64 (a5 : Nat)])] a c v u g2) ∧ (g1 ≠ g2)))
          · intro hD1
            apply wpAnyH_dag2 (R := (fun (g1 : Nat) (g2 : Nat) (wq : World) => (Sc w wq a c v u M M [(F, 54, #[.int .i64 2, .int .i64 2, .int .i64 4, .int .i64 0, .int .i64 2]), (B, 24, #[.int .i64 2, .int .i64 2, .int .i64 4, .int .i64 0, .int .i64 2]), (H, 37, #[.int .i64 t1, .int .i64 l1, .int .i64 s1, .bool rd, .int .i64 x1]), (At, 3, #[.int .i64 (a0 : Nat), .int .i64 (a1 : Nat), .int .i64 (a2 : Nat), .int .i64 (a3 : Nat), .int .i64 (a4 : Nat), .int .i64 (a5 : Nat)])]) ∧ (Blk wq g1 37 #[.int .i64 0, .int .i64 0, .int .i64 0, .bool false, .int .i64 0]) ∧ (Blk wq g2 37 #[.int .i64 0, .int .i64 0, .int .i64 0, .bool false, .int .i64 0]) ∧ (OffO w [(F, 54, #[.int .i64 2, .int .i64 2, .int .i64 4, .int .i64 0, .int .i64 2]), (B, 24, #[.int .i64 2, .int .i64 2, .int .i64 4, .int .i64 0, .int .i64 2]), (H, 37, #[.int .i64 t1, .int .i64 l1, .int .i64 s1, .bool rd, .int .i64 x1]), (At, 3, #[.int .i64 (a0 : Nat), .int .i64 (a1 : Nat), .int .i64 (a2 : Nat), .int .i64 (a3 : Nat), .int .i64 (a4 : Nat), .int .i64 (a5 : Nat)])] a c v u g1) ∧ (OffO w [(F, 54, #[.int .i64 2, .int .i64 2, .int .i64 4, .int .i64 0, .int .i64 2]), (B, 24, #[.int .i64 2, .int .i64 2, .int .i64 4, .int .i64 0, .int .i64 2]), (H, 37, #[.int .i64 t1, .int .i64 l1, .int .i64 s1, .bool rd, .int .i64 x1]), (At, 3, #[.int .i64 (a0 : Nat), .int .i64 (a1 : Nat), .int .i64 (a2 : Nat), .int .i64 (a3 : Nat), .int .i64 (a4 : Nat), .int .i64 (a5 : Nat)])] a c v u g2) ∧ (g1 ≠ g2)))
            · intro hD2
              apply wpAnyH_dag1 (R := (fun (g1 : Nat) (wq : World) => (Sc w wq a c v u M M [(F, 54, #[.int .i64 2, .int .i64 2, .int .i64 4, .int .i64 0, .int .i64 2]), (B, 24, #[.int .i64 2, .int .i64 2, .int .i64 4, .int .i64 0, .int .i64 2]), (H, 37, #[.int .i64 t1, .int .i64 l1, .int .i64 s1, .bool rd, .int .i64 x1]), (At, 3, #[.int .i64 (a0 : Nat), .int .i64 (a1 : Nat), .int .i64 (a2 : Nat), .int .i64 (a3 : Nat), .int .i64 (a4 : Nat), .int .i64 (a5 : Nat)])]) ∧ (Blk wq g1 37 #[.int .i64 0, .int .i64 0, .int .i64 0, .bool false, .int .i64 0]) ∧ (OffO w [(F, 54, #[.int .i64 2, .int .i64 2, .int .i64 4, .int .i64 0, .int .i64 2]), (B, 24, #[.int .i64 2, .int .i64 2, .int .i64 4, .int .i64 0, .int .i64 2]), (H, 37, #[.int .i64 t1, .int .i64 l1, .int .i64 s1, .bool rd, .int .i64 x1]), (At, 3, #[.int .i64 (a0 : Nat), .int .i64 (a1 : Nat), .int .i64 (a2 : Nat), .int .i64 (a3 : Nat), .int .i64 (a4 : Nat), .int .i64 (a5 : Nat)])] a c v u g1)))
              · intro hD3
                apply wpAnyH_dag1 (R := (fun (g2 : Nat) (wq : World) => (Sc w wq a c v u M M [(F, 54, #[.int .i64 2, .int .i64 2, .int .i64 4, .int .i64 0, .int .i64 2]), (B, 24, #[.int .i64 2, .int .i64 2, .int .i64 4, .int .i64 0, .int .i64 2]), (H, 37, #[.int .i64 t1, .int .i64 l1, .int .i64 s1, .bool rd, .int .i64 x1]), (At, 3, #[.int .i64 (a0 : Nat), .int .i64 (a1 : Nat), .int .i64 (a2 : Nat), .int .i64 (a3 : Nat), .int .i64 (a4 : Nat), .int .i64 (a5 : Nat)])]) ∧ (Blk wq g2 37 #[.int .i64 0, .int .i64 0, .int .i64 0, .bool false, .int .i64 0]) ∧ (OffO w [(F, 54, #[.int .i64 2, .int .i64 2, .int .i64 4, .int .i64 0, .int .i64 2]), (B, 24, #[.int .i64 2, .int .i64 2, .int .i64 4, .int .i64 0, .int .i64 2]), (H, 37, #[.int .i64 t1, .int .i64 l1, .int .i64 s1, .bool rd, .int .i64 x1]), (At, 3, #[.int .i64 (a0 : Nat), .int .i64 (a1 : Nat), .int .i64 (a2 : Nat), .int .i64 (a3 : Nat), .int .i64 (a4 : Nat), .int .i64 (a5 : Nat)])] a c v u g2)))
                · intro hD4
                  refine wpAnyH_take (i := 0) (v := ?_) (by simp only [List.getElem?_toArray, List.getElem?_cons_succ, List.getElem?_cons_zero]; rfl) (by kernel_rfl) (by kernel_rfl) (by kernel_rfl) (by exact fun _ _ _ h => h) (Or.inl ⟨by rfl, ?_⟩) hHeld ?_
                  rotate_left
                  · intro w hSw; (try dsimp only at hSw); go_simp; (try with_reducible rfl)
                  try simp only [Act.put, List.setIfInBounds_toArray, List.set_cons_zero, List.set_cons_succ]
                  refine wpAnyH_take (i := 1) (v := ?_) (by simp only [List.getElem?_toArray, List.getElem?_cons_succ, List.getElem?_cons_zero]; rfl) (by kernel_rfl) (by kernel_rfl) (by kernel_rfl) (by exact fun _ _ _ h => h) (Or.inl ⟨by rfl, ?_⟩) hHeld ?_
                  rotate_left
                  · intro w hSw; (try dsimp only at hSw); go_simp; (try with_reducible rfl)
                  try simp only [Act.put, List.setIfInBounds_toArray, List.set_cons_zero, List.set_cons_succ]
                  refine wpAnyH_ready (rs := [2, 3]) (by kernel_rfl) (by simp) ?_
                  refine AllReadyH.cons (by simp only [List.getElem?_toArray, List.getElem?_cons_succ, List.getElem?_cons_zero]; rfl) (fun kC hkC => ?_) (AllReadyH.cons (by simp only [List.getElem?_toArray, List.getElem?_cons_succ, List.getElem?_cons_zero]; rfl) (fun kC hkC => ?_) AllReadyH.nil)
                  -- operation 2 of state 5
                  · go_simp
                    have o1 := hS.fresh; (try have ne12 : wq.heap.size ≠ g2 := fun e => by (have := p2.lt; omega)); have p1 := Blk.new wq #[.int .i64 0, .int .i64 0, .int .i64 0, .bool false, .int .i64 0] 37; have hS := hS.no ((Keeps.refl NoS wq).alloc (.cells #[.int .i64 0, .int .i64 0, .int .i64 0, .bool false, .int .i64 0] 37)); (try have p2 := p2.no ((Keeps.refl NoS wq).alloc (.cells #[.int .i64 0, .int .i64 0, .int .i64 0, .bool false, .int .i64 0] 37))); obtain ⟨g1, hg1⟩ : ∃ g, wq.heap.size = g := ⟨_, rfl⟩; (try rw [hg1] at ne12); rw [hg1] at o1 p1 ⊢; clear hg1; generalize wq.alloc (.cells #[.int .i64 0, .int .i64 0, .int .i64 0, .bool false, .int .i64 0] 37) = wq at *
                    refine hkC.out _ _ ?_ (fun hHeld => ?_)
                    · exact (ak_keep3 hS)
                    clear hkC kC
                    try simp only [Act.put, List.setIfInBounds_toArray, List.set_cons_zero, List.set_cons_succ]
                    exact hD3 g1 _ ⟨hS, p1, o1⟩
                  -- operation 3 of state 5
                  · go_simp
                    have o2 := hS.fresh; (try have ne12 : g1 ≠ wq.heap.size := fun e => by (have := p1.lt; omega)); have p2 := Blk.new wq #[.int .i64 0, .int .i64 0, .int .i64 0, .bool false, .int .i64 0] 37; have hS := hS.no ((Keeps.refl NoS wq).alloc (.cells #[.int .i64 0, .int .i64 0, .int .i64 0, .bool false, .int .i64 0] 37)); (try have p1 := p1.no ((Keeps.refl NoS wq).alloc (.cells #[.int .i64 0, .int .i64 0, .int .i64 0, .bool false, .int .i64 0] 37))); obtain ⟨g2, hg2⟩ : ∃ g, wq.heap.size = g := ⟨_, rfl⟩; (try rw [hg2] at ne12); rw [hg2] at o2 p2 ⊢; clear hg2; generalize wq.alloc (.cells #[.int .i64 0, .int .i64 0, .int .i64 0, .bool false, .int .i64 0] 37) = wq at *
                    refine hkC.out _ _ ?_ (fun hHeld => ?_)
                    · exact (ak_keep3 hS)
                    clear hkC kC
                    try simp only [Act.put, List.setIfInBounds_toArray, List.set_cons_zero, List.set_cons_succ]
                    exact hD4 g2 _ ⟨hS, p2, o2⟩
                · intro g2 wq hR
                  obtain ⟨hS, p2, o2⟩ := hR
                  have hHeld : (fun w' => (w'.cell? ⟨F, 0, none⟩ = some (.int .i64 2) ∧ w'.cell? ⟨F, 1, none⟩ = some (.int .i64 2) ∧ w'.cell? ⟨F, 2, none⟩ = some (.int .i64 4) ∧ w'.cell? ⟨F, 3, none⟩ = some (.int .i64 0) ∧ w'.cell? ⟨F, 4, none⟩ = some (.int .i64 2)) ∧ (w'.cell? ⟨B, 0, none⟩ = some (.int .i64 2) ∧ w'.cell? ⟨B, 1, none⟩ = some (.int .i64 2) ∧ w'.cell? ⟨B, 2, none⟩ = some (.int .i64 4) ∧ w'.cell? ⟨B, 3, none⟩ = some (.int .i64 0) ∧ w'.cell? ⟨B, 4, none⟩ = some (.int .i64 2)) ∧ (w'.cell? ⟨H, 0, none⟩ = some (.int .i64 t1) ∧ w'.cell? ⟨H, 1, none⟩ = some (.int .i64 l1) ∧ w'.cell? ⟨H, 2, none⟩ = some (.int .i64 s1) ∧ w'.cell? ⟨H, 3, none⟩ = some (.bool rd) ∧ w'.cell? ⟨H, 4, none⟩ = some (.int .i64 x1))) wq := ak_keep3 hS
                  refine wpAnyH_ready (rs := [2]) (by kernel_rfl) (by simp) ?_
                  refine AllReadyH.cons (by simp only [List.getElem?_toArray, List.getElem?_cons_succ, List.getElem?_cons_zero]; rfl) (fun kC hkC => ?_) AllReadyH.nil
                  -- operation 2 of state 4
                  · go_simp
                    have o1 := hS.fresh; (try have ne12 : wq.heap.size ≠ g2 := fun e => by (have := p2.lt; omega)); have p1 := Blk.new wq #[.int .i64 0, .int .i64 0, .int .i64 0, .bool false, .int .i64 0] 37; have hS := hS.no ((Keeps.refl NoS wq).alloc (.cells #[.int .i64 0, .int .i64 0, .int .i64 0, .bool false, .int .i64 0] 37)); (try have p2 := p2.no ((Keeps.refl NoS wq).alloc (.cells #[.int .i64 0, .int .i64 0, .int .i64 0, .bool false, .int .i64 0] 37))); obtain ⟨g1, hg1⟩ : ∃ g, wq.heap.size = g := ⟨_, rfl⟩; (try rw [hg1] at ne12); rw [hg1] at o1 p1 ⊢; clear hg1; generalize wq.alloc (.cells #[.int .i64 0, .int .i64 0, .int .i64 0, .bool false, .int .i64 0] 37) = wq at *
                    refine hkC.out _ _ ?_ (fun hHeld => ?_)
                    · exact (ak_keep3 hS)
                    clear hkC kC
                    try simp only [Act.put, List.setIfInBounds_toArray, List.set_cons_zero, List.set_cons_succ]
                    exact hD2 g1 g2 _ ⟨hS, p1, p2, o1, o2, ne12⟩
              · intro g1 wq hR
                obtain ⟨hS, p1, o1⟩ := hR
                have hHeld : (fun w' => (w'.cell? ⟨F, 0, none⟩ = some (.int .i64 2) ∧ w'.cell? ⟨F, 1, none⟩ = some (.int .i64 2) ∧ w'.cell? ⟨F, 2, none⟩ = some (.int .i64 4) ∧ w'.cell? ⟨F, 3, none⟩ = some (.int .i64 0) ∧ w'.cell? ⟨F, 4, none⟩ = some (.int .i64 2)) ∧ (w'.cell? ⟨B, 0, none⟩ = some (.int .i64 2) ∧ w'.cell? ⟨B, 1, none⟩ = some (.int .i64 2) ∧ w'.cell? ⟨B, 2, none⟩ = some (.int .i64 4) ∧ w'.cell? ⟨B, 3, none⟩ = some (.int .i64 0) ∧ w'.cell? ⟨B, 4, none⟩ = some (.int .i64 2)) ∧ (w'.cell? ⟨H, 0, none⟩ = some (.int .i64 t1) ∧ w'.cell? ⟨H, 1, none⟩ = some (.int .i64 l1) ∧ w'.cell? ⟨H, 2, none⟩ = some (.int .i64 s1) ∧ w'.cell? ⟨H, 3, none⟩ = some (.bool rd) ∧ w'.cell? ⟨H, 4, none⟩ = some (.int .i64 x1))) wq := ak_keep3 hS
                refine wpAnyH_ready (rs := [3]) (by kernel_rfl) (by simp) ?_
                refine AllReadyH.cons (by simp only [List.getElem?_toArray, List.getElem?_cons_succ, List.getElem?_cons_zero]; rfl) (fun kC hkC => ?_) AllReadyH.nil
                -- operation 3 of state 3
                · go_simp
                  have o2 := hS.fresh; (try have ne12 : g1 ≠ wq.heap.size := fun e => by (have := p1.lt; omega)); have p2 := Blk.new wq #[.int .i64 0, .int .i64 0, .int .i64 0, .bool false, .int .i64 0] 37; have hS := hS.no ((Keeps.refl NoS wq).alloc (.cells #[.int .i64 0, .int .i64 0, .int .i64 0, .bool false, .int .i64 0] 37)); (try have p1 := p1.no ((Keeps.refl NoS wq).alloc (.cells #[.int .i64 0, .int .i64 0, .int .i64 0, .bool false, .int .i64 0] 37))); obtain ⟨g2, hg2⟩ : ∃ g, wq.heap.size = g := ⟨_, rfl⟩; (try rw [hg2] at ne12); rw [hg2] at o2 p2 ⊢; clear hg2; generalize wq.alloc (.cells #[.int .i64 0, .int .i64 0, .int .i64 0, .bool false, .int .i64 0] 37) = wq at *
                  refine hkC.out _ _ ?_ (fun hHeld => ?_)
                  · exact (ak_keep3 hS)
                  clear hkC kC
                  try simp only [Act.put, List.setIfInBounds_toArray, List.set_cons_zero, List.set_cons_succ]
                  exact hD2 g1 g2 _ ⟨hS, p1, p2, o1, o2, ne12⟩
            · intro g1 g2 wq hR
              obtain ⟨hS, p1, p2, o1, o2, ne12⟩ := hR
              have hHeld : (fun w' => (w'.cell? ⟨F, 0, none⟩ = some (.int .i64 2) ∧ w'.cell? ⟨F, 1, none⟩ = some (.int .i64 2) ∧ w'.cell? ⟨F, 2, none⟩ = some (.int .i64 4) ∧ w'.cell? ⟨F, 3, none⟩ = some (.int .i64 0) ∧ w'.cell? ⟨F, 4, none⟩ = some (.int .i64 2)) ∧ (w'.cell? ⟨B, 0, none⟩ = some (.int .i64 2) ∧ w'.cell? ⟨B, 1, none⟩ = some (.int .i64 2) ∧ w'.cell? ⟨B, 2, none⟩ = some (.int .i64 4) ∧ w'.cell? ⟨B, 3, none⟩ = some (.int .i64 0) ∧ w'.cell? ⟨B, 4, none⟩ = some (.int .i64 2)) ∧ (w'.cell? ⟨H, 0, none⟩ = some (.int .i64 t1) ∧ w'.cell? ⟨H, 1, none⟩ = some (.int .i64 l1) ∧ w'.cell? ⟨H, 2, none⟩ = some (.int .i64 s1) ∧ w'.cell? ⟨H, 3, none⟩ = some (.bool rd) ∧ w'.cell? ⟨H, 4, none⟩ = some (.int .i64 x1))) wq := ak_keep3 hS
              refine wpAnyH_ready (rs := [4]) (by kernel_rfl) (by simp) ?_
              refine AllReadyH.cons (by simp only [List.getElem?_toArray, List.getElem?_cons_succ, List.getElem?_cons_zero]; rfl) (fun kC hkC => ?_) AllReadyH.nil
              -- operation 4 of state 2
              · obtain ⟨y0, y1, y2, y3, y4⟩ := p1.cells5; have yf0 := p1.free 0; have yf1 := p1.free 1; have yf2 := p1.free 2; have yf3 := p1.free 3; have yf4 := p1.free 4; go_simp; have kk := kput5 (wr := wq) g1 (.int .i64 t1) (.int .i64 l1) (.int .i64 s1) (.bool rd) (.int .i64 x1); have hS := hS.far o1 kk; have p2 := p2.far kk ne12.symm; have p1 := p1.put5 (.int .i64 t1) (.int .i64 l1) (.int .i64 s1) (.bool rd) (.int .i64 x1); generalize (((((wq.setCell ⟨g1, 0, none⟩ (.int .i64 t1)).setCell ⟨g1, 1, none⟩ (.int .i64 l1)).setCell ⟨g1, 2, none⟩ (.int .i64 s1)).setCell ⟨g1, 3, none⟩ (.bool rd)).setCell ⟨g1, 4, none⟩ (.int .i64 x1)) = wq at *; clear y0 y1 y2 y3 y4 yf0 yf1 yf2 yf3 yf4 kk
                refine hkC.out _ _ ?_ (fun hHeld => ?_)
                · exact (ak_keep3 hS)
                clear hkC kC
                try simp only [Act.put, List.setIfInBounds_toArray, List.set_cons_zero, List.set_cons_succ]
                exact hD1 g1 g2 _ ⟨hS, p1, p2, o1, o2, ne12⟩
          · intro g1 g2 wq hR
            obtain ⟨hS, p1, p2, o1, o2, ne12⟩ := hR
            have hHeld : (fun w' => (w'.cell? ⟨F, 0, none⟩ = some (.int .i64 2) ∧ w'.cell? ⟨F, 1, none⟩ = some (.int .i64 2) ∧ w'.cell? ⟨F, 2, none⟩ = some (.int .i64 4) ∧ w'.cell? ⟨F, 3, none⟩ = some (.int .i64 0) ∧ w'.cell? ⟨F, 4, none⟩ = some (.int .i64 2)) ∧ (w'.cell? ⟨B, 0, none⟩ = some (.int .i64 2) ∧ w'.cell? ⟨B, 1, none⟩ = some (.int .i64 2) ∧ w'.cell? ⟨B, 2, none⟩ = some (.int .i64 4) ∧ w'.cell? ⟨B, 3, none⟩ = some (.int .i64 0) ∧ w'.cell? ⟨B, 4, none⟩ = some (.int .i64 2)) ∧ (w'.cell? ⟨H, 0, none⟩ = some (.int .i64 t1) ∧ w'.cell? ⟨H, 1, none⟩ = some (.int .i64 l1) ∧ w'.cell? ⟨H, 2, none⟩ = some (.int .i64 s1) ∧ w'.cell? ⟨H, 3, none⟩ = some (.bool rd) ∧ w'.cell? ⟨H, 4, none⟩ = some (.int .i64 x1))) wq := ak_keep3 hS
            refine wpAnyH_ready (rs := [5]) (by kernel_rfl) (by simp) ?_
            refine AllReadyH.cons (by simp only [List.getElem?_toArray, List.getElem?_cons_succ, List.getElem?_cons_zero]; rfl) (fun kC hkC => ?_) AllReadyH.nil
            -- operation 5 of state 1
            · obtain ⟨y0, y1, y2, y3, y4⟩ := p2.cells5; have yf0 := p2.free 0; have yf1 := p2.free 1; have yf2 := p2.free 2; have yf3 := p2.free 3; have yf4 := p2.free 4; go_simp; have kk := kput5 (wr := wq) g2 (.int .i64 t1) (.int .i64 l1) (.int .i64 s1) (.bool rd) (.int .i64 x1); have hS := hS.far o2 kk; have p1 := p1.far kk ne12; have p2 := p2.put5 (.int .i64 t1) (.int .i64 l1) (.int .i64 s1) (.bool rd) (.int .i64 x1); generalize (((((wq.setCell ⟨g2, 0, none⟩ (.int .i64 t1)).setCell ⟨g2, 1, none⟩ (.int .i64 l1)).setCell ⟨g2, 2, none⟩ (.int .i64 s1)).setCell ⟨g2, 3, none⟩ (.bool rd)).setCell ⟨g2, 4, none⟩ (.int .i64 x1)) = wq at *; clear y0 y1 y2 y3 y4 yf0 yf1 yf2 yf3 yf4 kk
              refine hkC.out _ _ ?_ (fun hHeld => ?_)
              · exact (ak_keep3 hS)
              clear hkC kC
              try simp only [Act.put, List.setIfInBounds_toArray, List.set_cons_zero, List.set_cons_succ]
              exact hD0 g1 g2 _ ⟨hS, p1, p2, o1, o2, ne12⟩
        intro g1 g2 wq hR
        obtain ⟨hS, p1, p2, o1, o2, ne12⟩ := hR
        refine wpAnyH_done (by kernel_rfl) ?_ _
        have HS := Lib.hid hS; have HO1 := Lib.hid o1; have HO2 := Lib.hid o2; have HP1 := Lib.hid p1; have HP2 := Lib.hid p2
        clear hS o1 o2 p1 p2 hHeld
        go_upto_if 90 with fail
        go_cut [] (fun wx => ∃ (M2 : MemS) (t2 l2 s2 : Int) (r2 : Bool) (x2 : Int), M2.L.length = 48 ∧ Sc w wx a c v u M2 M2 ((g2, 37, #[.int .i64 t2, .int .i64 l2, .int .i64 s2, .bool r2, .int .i64 x2]) :: (g1, 37, #[.int .i64 t2, .int .i64 l2, .int .i64 s2, .bool r2, .int .i64 x2]) :: [(F, 54, #[.int .i64 2, .int .i64 2, .int .i64 4, .int .i64 0, .int .i64 2]), (B, 24, #[.int .i64 2, .int .i64 2, .int .i64 4, .int .i64 0, .int .i64 2]), (H, 37, #[.int .i64 t1, .int .i64 l1, .int .i64 s1, .bool rd, .int .i64 x1]), (At, 3, #[.int .i64 (a0 : Nat), .int .i64 (a1 : Nat), .int .i64 (a2 : Nat), .int .i64 (a3 : Nat), .int .i64 (a4 : Nat), .int .i64 (a5 : Nat)])]))
        case first =>
          cases drop
          · obtain ⟨M2, h2, hd⟩ : ∃ M2 h2, wTakeI M ⟨t1, l1, s1, rd, x1⟩ = (M2, h2) := ⟨_, _, rfl⟩
            have hl2 : M2.L.length = 48 := by have h := wTakeI_len M ⟨t1, l1, s1, rd, x1⟩; rw [hd] at h; exact h.trans HL.out
            obtain ⟨t2, l2, s2, r2, x2⟩ := h2
            have HD := Lib.hid hd; have HL2 := Lib.hid hl2
            have hk := (Keeps.refl NoS wq).drew
            have hS := HS.out.no hk; have p1 := HP1.out.no hk; have p2 := HP2.out.no hk; have o1 := HO1.out; have o2 := HO2.out
            clear hd hl2 HS HP1 HP2 HO1 HO2 hk
            go_wp2_with fail
            refine wp_region_held_drew (S := (fun w' => (w'.cell? ⟨F, 0, none⟩ = some (.int .i64 2) ∧ w'.cell? ⟨F, 1, none⟩ = some (.int .i64 2) ∧ w'.cell? ⟨F, 2, none⟩ = some (.int .i64 4) ∧ w'.cell? ⟨F, 3, none⟩ = some (.int .i64 0) ∧ w'.cell? ⟨F, 4, none⟩ = some (.int .i64 2)) ∧ (w'.cell? ⟨B, 0, none⟩ = some (.int .i64 2) ∧ w'.cell? ⟨B, 1, none⟩ = some (.int .i64 2) ∧ w'.cell? ⟨B, 2, none⟩ = some (.int .i64 4) ∧ w'.cell? ⟨B, 3, none⟩ = some (.int .i64 0) ∧ w'.cell? ⟨B, 4, none⟩ = some (.int .i64 2)) ∧ (w'.cell? ⟨H, 0, none⟩ = some (.int .i64 t1) ∧ w'.cell? ⟨H, 1, none⟩ = some (.int .i64 l1) ∧ w'.cell? ⟨H, 2, none⟩ = some (.int .i64 s1) ∧ w'.cell? ⟨H, 3, none⟩ = some (.bool rd) ∧ w'.cell? ⟨H, 4, none⟩ = some (.int .i64 x1)))) (by kernel_rfl) (ak_keep3 hS) (fun hHeld => ?_)
            refine wpAnyH_take (i := 0) (v := ?_) (by simp only [List.getElem?_toArray, List.getElem?_cons_succ, List.getElem?_cons_zero]; rfl) (by kernel_rfl) (by kernel_rfl) (by kernel_rfl) (by exact fun _ _ _ h => h) (Or.inl ⟨by rfl, ?_⟩) hHeld ?_
            rotate_left
            · intro w hSw; (try dsimp only at hSw); go_simp; (try with_reducible rfl)
            try simp only [Act.put, List.setIfInBounds_toArray, List.set_cons_zero, List.set_cons_succ]
            refine wpAnyH_take (i := 1) (v := ?_) (by simp only [List.getElem?_toArray, List.getElem?_cons_succ, List.getElem?_cons_zero]; rfl) (by kernel_rfl) (by kernel_rfl) (by kernel_rfl) (by exact fun _ _ _ h => h) (Or.inl ⟨by rfl, ?_⟩) hHeld ?_
            rotate_left
            · intro w hSw; (try dsimp only at hSw); go_simp; (try with_reducible rfl)
            try simp only [Act.put, List.setIfInBounds_toArray, List.set_cons_zero, List.set_cons_succ]
            refine wpAnyH_take (i := 2) (v := ?_) (by simp only [List.getElem?_toArray, List.getElem?_cons_succ, List.getElem?_cons_zero]; rfl) (by kernel_rfl) (by kernel_rfl) (by kernel_rfl) (by exact fun _ _ _ h => h) (Or.inl ⟨by rfl, ?_⟩) hHeld ?_
            rotate_left
            · intro w hSw; (try dsimp only at hSw); go_simp; (try with_reducible rfl)
            try simp only [Act.put, List.setIfInBounds_toArray, List.set_cons_zero, List.set_cons_succ]
            refine wpAnyH_take (i := 4) (v := ?_) (by simp only [List.getElem?_toArray, List.getElem?_cons_succ, List.getElem?_cons_zero]; rfl) (by kernel_rfl) (by kernel_rfl) (by kernel_rfl) (by exact fun _ _ _ h => h) (Or.inl ⟨by rfl, ?_⟩) hHeld ?_
            rotate_left
            · intro w hSw; (try dsimp only at hSw); go_simp; (try with_reducible rfl)
            try simp only [Act.put, List.setIfInBounds_toArray, List.set_cons_zero, List.set_cons_succ]
            refine wpAnyH_take (i := 5) (v := ?_) (by simp only [List.getElem?_toArray, List.getElem?_cons_succ, List.getElem?_cons_zero]; rfl) (by kernel_rfl) (by kernel_rfl) (by kernel_rfl) (by exact fun _ _ _ h => h) (Or.inl ⟨by rfl, ?_⟩) hHeld ?_
            rotate_left
            · intro w hSw; (try dsimp only at hSw); go_simp; (try with_reducible rfl)
            try simp only [Act.put, List.setIfInBounds_toArray, List.set_cons_zero, List.set_cons_succ]
            refine wpAnyH_take (i := 6) (v := ?_) (by simp only [List.getElem?_toArray, List.getElem?_cons_succ, List.getElem?_cons_zero]; rfl) (by kernel_rfl) (by kernel_rfl) (by kernel_rfl) (by exact fun _ _ _ h => h) (Or.inl ⟨by rfl, ?_⟩) hHeld ?_
            rotate_left
            · intro w hSw; (try dsimp only at hSw); go_simp; (try with_reducible rfl)
            try simp only [Act.put, List.setIfInBounds_toArray, List.set_cons_zero, List.set_cons_succ]
            refine wpAnyH_ready (rs := [3]) (by kernel_rfl) (by simp) ?_
            refine AllReadyH.cons (by simp only [List.getElem?_toArray, List.getElem?_cons_succ, List.getElem?_cons_zero]; rfl) (fun kC hkC => ?_) AllReadyH.nil
            go_simp
            refine (rwtake8_any t1 l1 s1 rd x1 a v M _ hS.tw.s.m HL.out).mono ?_; rw [HD.out]; unfold handV; dsimp only; rintro e3 wq ⟨rfl, hm, hkk⟩; have hS := hS.turnS hm hkk; have p1 := p1.keep hkk o1.2.1; have p2 := p2.keep hkk o2.2.1; clear hm hkk
            (try go_wp2_with fail)
            refine hkC.out _ _ (ak_keep3 hS) (fun hHeld => ?_)
            clear hkC kC
            try simp only [Act.put, List.setIfInBounds_toArray, List.set_cons_zero, List.set_cons_succ]
            refine wpAnyH_ready (rs := [7]) (by kernel_rfl) (by simp) ?_
            refine AllReadyH.cons (by simp only [List.getElem?_toArray, List.getElem?_cons_succ, List.getElem?_cons_zero]; rfl) (fun kC hkC => ?_) AllReadyH.nil
            go_simp
            refine (rrwtake8_any t1 l1 s1 rd x1 c u M _ hS.tw.r.m HL.out).mono ?_; rw [HD.out]; unfold handV; dsimp only; rintro e3 wq ⟨rfl, hm, hkk⟩; have hS := hS.turnR hm hkk; have p1 := p1.keep hkk o1.2.2; have p2 := p2.keep hkk o2.2.2; clear hm hkk
            (try go_wp2_with fail)
            refine hkC.out _ _ (ak_keep3 hS) (fun hHeld => ?_)
            clear hkC kC
            try simp only [Act.put, List.setIfInBounds_toArray, List.set_cons_zero, List.set_cons_succ]
            refine wpAnyH_ready (rs := [8]) (by kernel_rfl) (by simp) ?_
            refine AllReadyH.cons (by simp only [List.getElem?_toArray, List.getElem?_cons_succ, List.getElem?_cons_zero]; rfl) (fun kC hkC => ?_) AllReadyH.nil
            obtain ⟨y0, y1, y2, y3, y4⟩ := p1.cells5; have yf0 := p1.free 0; have yf1 := p1.free 1; have yf2 := p1.free 2; have yf3 := p1.free 3; have yf4 := p1.free 4; go_simp; have kk := kput5 (wr := wq) g1 (.int .i64 t2) (.int .i64 l2) (.int .i64 s2) (.bool r2) (.int .i64 x2); have hS := hS.far o1 kk; have p2 := p2.far kk ne12.symm; have p1 := p1.put5 (.int .i64 t2) (.int .i64 l2) (.int .i64 s2) (.bool r2) (.int .i64 x2); generalize (((((wq.setCell ⟨g1, 0, none⟩ (.int .i64 t2)).setCell ⟨g1, 1, none⟩ (.int .i64 l2)).setCell ⟨g1, 2, none⟩ (.int .i64 s2)).setCell ⟨g1, 3, none⟩ (.bool r2)).setCell ⟨g1, 4, none⟩ (.int .i64 x2)) = wq at *; clear y0 y1 y2 y3 y4 yf0 yf1 yf2 yf3 yf4 kk
            refine hkC.out _ _ (ak_keep3 hS) (fun hHeld => ?_)
            clear hkC kC
            try simp only [Act.put, List.setIfInBounds_toArray, List.set_cons_zero, List.set_cons_succ]
            refine wpAnyH_ready (rs := [9]) (by kernel_rfl) (by simp) ?_
            refine AllReadyH.cons (by simp only [List.getElem?_toArray, List.getElem?_cons_succ, List.getElem?_cons_zero]; rfl) (fun kC hkC => ?_) AllReadyH.nil
            obtain ⟨y0, y1, y2, y3, y4⟩ := p2.cells5; have yf0 := p2.free 0; have yf1 := p2.free 1; have yf2 := p2.free 2; have yf3 := p2.free 3; have yf4 := p2.free 4; go_simp; have kk := kput5 (wr := wq) g2 (.int .i64 t2) (.int .i64 l2) (.int .i64 s2) (.bool r2) (.int .i64 x2); have hS := hS.far o2 kk; have p1 := p1.far kk ne12; have p2 := p2.put5 (.int .i64 t2) (.int .i64 l2) (.int .i64 s2) (.bool r2) (.int .i64 x2); generalize (((((wq.setCell ⟨g2, 0, none⟩ (.int .i64 t2)).setCell ⟨g2, 1, none⟩ (.int .i64 l2)).setCell ⟨g2, 2, none⟩ (.int .i64 s2)).setCell ⟨g2, 3, none⟩ (.bool r2)).setCell ⟨g2, 4, none⟩ (.int .i64 x2)) = wq at *; clear y0 y1 y2 y3 y4 yf0 yf1 yf2 yf3 yf4 kk
            refine hkC.out _ _ (ak_keep3 hS) (fun hHeld => ?_)
            clear hkC kC
            try simp only [Act.put, List.setIfInBounds_toArray, List.set_cons_zero, List.set_cons_succ]
            refine wpAnyH_done (by kernel_rfl) ?_ _
            go_wp2_with fail
            go_meet
            refine ⟨M2, t2, l2, s2, r2, x2, HL2.out, (hS.push o1 p1).push ⟨⟨o2.1.1, fun x hx => (List.mem_cons.1 hx).elim (fun e => by rw [e]; exact ne12) (o2.1.2 x)⟩, o2.2⟩ p2⟩
          · obtain ⟨M2, h2, hd⟩ : ∃ M2 h2, wDropI M ⟨t1, l1, s1, rd, x1⟩ = (M2, h2) := ⟨_, _, rfl⟩
            have hl2 : M2.L.length = 48 := by have h := wDropI_len M ⟨t1, l1, s1, rd, x1⟩; rw [hd] at h; exact h.trans HL.out
            obtain ⟨t2, l2, s2, r2, x2⟩ := h2
            have HD := Lib.hid hd; have HL2 := Lib.hid hl2
            have hk := (Keeps.refl NoS wq).drew
            have hS := HS.out.no hk; have p1 := HP1.out.no hk; have p2 := HP2.out.no hk; have o1 := HO1.out; have o2 := HO2.out
            clear hd hl2 HS HP1 HP2 HO1 HO2 hk
            go_wp2_with fail
            refine wp_region_held_drew (S := (fun w' => (w'.cell? ⟨F, 0, none⟩ = some (.int .i64 2) ∧ w'.cell? ⟨F, 1, none⟩ = some (.int .i64 2) ∧ w'.cell? ⟨F, 2, none⟩ = some (.int .i64 4) ∧ w'.cell? ⟨F, 3, none⟩ = some (.int .i64 0) ∧ w'.cell? ⟨F, 4, none⟩ = some (.int .i64 2)) ∧ (w'.cell? ⟨B, 0, none⟩ = some (.int .i64 2) ∧ w'.cell? ⟨B, 1, none⟩ = some (.int .i64 2) ∧ w'.cell? ⟨B, 2, none⟩ = some (.int .i64 4) ∧ w'.cell? ⟨B, 3, none⟩ = some (.int .i64 0) ∧ w'.cell? ⟨B, 4, none⟩ = some (.int .i64 2)) ∧ (w'.cell? ⟨H, 0, none⟩ = some (.int .i64 t1) ∧ w'.cell? ⟨H, 1, none⟩ = some (.int .i64 l1) ∧ w'.cell? ⟨H, 2, none⟩ = some (.int .i64 s1) ∧ w'.cell? ⟨H, 3, none⟩ = some (.bool rd) ∧ w'.cell? ⟨H, 4, none⟩ = some (.int .i64 x1)))) (by kernel_rfl) (ak_keep3 hS) (fun hHeld => ?_)
            refine wpAnyH_take (i := 0) (v := ?_) (by simp only [List.getElem?_toArray, List.getElem?_cons_succ, List.getElem?_cons_zero]; rfl) (by kernel_rfl) (by kernel_rfl) (by kernel_rfl) (by exact fun _ _ _ h => h) (Or.inl ⟨by rfl, ?_⟩) hHeld ?_
            rotate_left
            · intro w hSw; (try dsimp only at hSw); go_simp; (try with_reducible rfl)
            try simp only [Act.put, List.setIfInBounds_toArray, List.set_cons_zero, List.set_cons_succ]
            refine wpAnyH_take (i := 1) (v := ?_) (by simp only [List.getElem?_toArray, List.getElem?_cons_succ, List.getElem?_cons_zero]; rfl) (by kernel_rfl) (by kernel_rfl) (by kernel_rfl) (by exact fun _ _ _ h => h) (Or.inl ⟨by rfl, ?_⟩) hHeld ?_
            rotate_left
            · intro w hSw; (try dsimp only at hSw); go_simp; (try with_reducible rfl)
            try simp only [Act.put, List.setIfInBounds_toArray, List.set_cons_zero, List.set_cons_succ]
            refine wpAnyH_take (i := 2) (v := ?_) (by simp only [List.getElem?_toArray, List.getElem?_cons_succ, List.getElem?_cons_zero]; rfl) (by kernel_rfl) (by kernel_rfl) (by kernel_rfl) (by exact fun _ _ _ h => h) (Or.inl ⟨by rfl, ?_⟩) hHeld ?_
            rotate_left
            · intro w hSw; (try dsimp only at hSw); go_simp; (try with_reducible rfl)
            try simp only [Act.put, List.setIfInBounds_toArray, List.set_cons_zero, List.set_cons_succ]
            refine wpAnyH_take (i := 4) (v := ?_) (by simp only [List.getElem?_toArray, List.getElem?_cons_succ, List.getElem?_cons_zero]; rfl) (by kernel_rfl) (by kernel_rfl) (by kernel_rfl) (by exact fun _ _ _ h => h) (Or.inl ⟨by rfl, ?_⟩) hHeld ?_
            rotate_left
            · intro w hSw; (try dsimp only at hSw); go_simp; (try with_reducible rfl)
            try simp only [Act.put, List.setIfInBounds_toArray, List.set_cons_zero, List.set_cons_succ]
            refine wpAnyH_take (i := 5) (v := ?_) (by simp only [List.getElem?_toArray, List.getElem?_cons_succ, List.getElem?_cons_zero]; rfl) (by kernel_rfl) (by kernel_rfl) (by kernel_rfl) (by exact fun _ _ _ h => h) (Or.inl ⟨by rfl, ?_⟩) hHeld ?_
            rotate_left
            · intro w hSw; (try dsimp only at hSw); go_simp; (try with_reducible rfl)
            try simp only [Act.put, List.setIfInBounds_toArray, List.set_cons_zero, List.set_cons_succ]
            refine wpAnyH_take (i := 6) (v := ?_) (by simp only [List.getElem?_toArray, List.getElem?_cons_succ, List.getElem?_cons_zero]; rfl) (by kernel_rfl) (by kernel_rfl) (by kernel_rfl) (by exact fun _ _ _ h => h) (Or.inl ⟨by rfl, ?_⟩) hHeld ?_
            rotate_left
            · intro w hSw; (try dsimp only at hSw); go_simp; (try with_reducible rfl)
            try simp only [Act.put, List.setIfInBounds_toArray, List.set_cons_zero, List.set_cons_succ]
            refine wpAnyH_ready (rs := [3]) (by kernel_rfl) (by simp) ?_
            refine AllReadyH.cons (by simp only [List.getElem?_toArray, List.getElem?_cons_succ, List.getElem?_cons_zero]; rfl) (fun kC hkC => ?_) AllReadyH.nil
            go_simp
            refine (rwdrop8_any t1 l1 s1 rd x1 a v M _ hS.tw.s.m HL.out).mono ?_; rw [HD.out]; unfold handV; dsimp only; rintro e3 wq ⟨rfl, hm, hkk⟩; have hS := hS.turnS hm hkk; have p1 := p1.keep hkk o1.2.1; have p2 := p2.keep hkk o2.2.1; clear hm hkk
            (try go_wp2_with fail)
            refine hkC.out _ _ (ak_keep3 hS) (fun hHeld => ?_)
            clear hkC kC
            try simp only [Act.put, List.setIfInBounds_toArray, List.set_cons_zero, List.set_cons_succ]
            refine wpAnyH_ready (rs := [7]) (by kernel_rfl) (by simp) ?_
            refine AllReadyH.cons (by simp only [List.getElem?_toArray, List.getElem?_cons_succ, List.getElem?_cons_zero]; rfl) (fun kC hkC => ?_) AllReadyH.nil
            go_simp
            refine (rrwdrop8_any t1 l1 s1 rd x1 c u M _ hS.tw.r.m HL.out).mono ?_; rw [HD.out]; unfold handV; dsimp only; rintro e3 wq ⟨rfl, hm, hkk⟩; have hS := hS.turnR hm hkk; have p1 := p1.keep hkk o1.2.2; have p2 := p2.keep hkk o2.2.2; clear hm hkk
            (try go_wp2_with fail)
            refine hkC.out _ _ (ak_keep3 hS) (fun hHeld => ?_)
            clear hkC kC
            try simp only [Act.put, List.setIfInBounds_toArray, List.set_cons_zero, List.set_cons_succ]
            refine wpAnyH_ready (rs := [8]) (by kernel_rfl) (by simp) ?_
            refine AllReadyH.cons (by simp only [List.getElem?_toArray, List.getElem?_cons_succ, List.getElem?_cons_zero]; rfl) (fun kC hkC => ?_) AllReadyH.nil
            obtain ⟨y0, y1, y2, y3, y4⟩ := p1.cells5; have yf0 := p1.free 0; have yf1 := p1.free 1; have yf2 := p1.free 2; have yf3 := p1.free 3; have yf4 := p1.free 4; go_simp; have kk := kput5 (wr := wq) g1 (.int .i64 t2) (.int .i64 l2) (.int .i64 s2) (.bool r2) (.int .i64 x2); have hS := hS.far o1 kk; have p2 := p2.far kk ne12.symm; have p1 := p1.put5 (.int .i64 t2) (.int .i64 l2) (.int .i64 s2) (.bool r2) (.int .i64 x2); generalize (((((wq.setCell ⟨g1, 0, none⟩ (.int .i64 t2)).setCell ⟨g1, 1, none⟩ (.int .i64 l2)).setCell ⟨g1, 2, none⟩ (.int .i64 s2)).setCell ⟨g1, 3, none⟩ (.bool r2)).setCell ⟨g1, 4, none⟩ (.int .i64 x2)) = wq at *; clear y0 y1 y2 y3 y4 yf0 yf1 yf2 yf3 yf4 kk
            refine hkC.out _ _ (ak_keep3 hS) (fun hHeld => ?_)
            clear hkC kC
            try simp only [Act.put, List.setIfInBounds_toArray, List.set_cons_zero, List.set_cons_succ]
            refine wpAnyH_ready (rs := [9]) (by kernel_rfl) (by simp) ?_
            refine AllReadyH.cons (by simp only [List.getElem?_toArray, List.getElem?_cons_succ, List.getElem?_cons_zero]; rfl) (fun kC hkC => ?_) AllReadyH.nil
            obtain ⟨y0, y1, y2, y3, y4⟩ := p2.cells5; have yf0 := p2.free 0; have yf1 := p2.free 1; have yf2 := p2.free 2; have yf3 := p2.free 3; have yf4 := p2.free 4; go_simp; have kk := kput5 (wr := wq) g2 (.int .i64 t2) (.int .i64 l2) (.int .i64 s2) (.bool r2) (.int .i64 x2); have hS := hS.far o2 kk; have p1 := p1.far kk ne12; have p2 := p2.put5 (.int .i64 t2) (.int .i64 l2) (.int .i64 s2) (.bool r2) (.int .i64 x2); generalize (((((wq.setCell ⟨g2, 0, none⟩ (.int .i64 t2)).setCell ⟨g2, 1, none⟩ (.int .i64 l2)).setCell ⟨g2, 2, none⟩ (.int .i64 s2)).setCell ⟨g2, 3, none⟩ (.bool r2)).setCell ⟨g2, 4, none⟩ (.int .i64 x2)) = wq at *; clear y0 y1 y2 y3 y4 yf0 yf1 yf2 yf3 yf4 kk
            refine hkC.out _ _ (ak_keep3 hS) (fun hHeld => ?_)
            clear hkC kC
            try simp only [Act.put, List.setIfInBounds_toArray, List.set_cons_zero, List.set_cons_succ]
            refine wpAnyH_done (by kernel_rfl) ?_ _
            go_wp2_with fail
            go_meet
            refine ⟨M2, t2, l2, s2, r2, x2, HL2.out, (hS.push o1 p1).push ⟨⟨o2.1.1, fun x hx => (List.mem_cons.1 hx).elim (fun e => by rw [e]; exact ne12) (o2.1.2 x)⟩, o2.2⟩ p2⟩
        case rest =>
          clear HS HO1 HO2 HP1 HP2 HL
          obtain ⟨M2, t2, l2, s2, r2, x2, hl2, hS⟩ := hcut
          have HL2 := Lib.hid hl2
          have HPK := Lib.hid (show a1 < M2.L.length by rw [hl2]; have := HLT.out 1; exact this)
          have hS := hS.no ((Keeps.refl NoS _).drew)
          clear hl2
          obtain ⟨pk, hpk⟩ : ∃ z, M2.word a1 = z := ⟨_, rfl⟩
          have HPW := Lib.hid hpk
          clear hpk
          cases r2
          · go_wp2_with fail
            refine wp_region_held_drew (S := (fun w' => ((w'.cell? ⟨F, 0, none⟩ = some (.int .i64 2) ∧ w'.cell? ⟨F, 1, none⟩ = some (.int .i64 2) ∧ w'.cell? ⟨F, 2, none⟩ = some (.int .i64 4) ∧ w'.cell? ⟨F, 3, none⟩ = some (.int .i64 0) ∧ w'.cell? ⟨F, 4, none⟩ = some (.int .i64 2)) ∧ (w'.cell? ⟨B, 0, none⟩ = some (.int .i64 2) ∧ w'.cell? ⟨B, 1, none⟩ = some (.int .i64 2) ∧ w'.cell? ⟨B, 2, none⟩ = some (.int .i64 4) ∧ w'.cell? ⟨B, 3, none⟩ = some (.int .i64 0) ∧ w'.cell? ⟨B, 4, none⟩ = some (.int .i64 2)) ∧ (w'.cell? ⟨H, 0, none⟩ = some (.int .i64 t1) ∧ w'.cell? ⟨H, 1, none⟩ = some (.int .i64 l1) ∧ w'.cell? ⟨H, 2, none⟩ = some (.int .i64 s1) ∧ w'.cell? ⟨H, 3, none⟩ = some (.bool rd) ∧ w'.cell? ⟨H, 4, none⟩ = some (.int .i64 x1)) ∧ (w'.cell? ⟨g1, 0, none⟩ = some (.int .i64 t2) ∧ w'.cell? ⟨g1, 1, none⟩ = some (.int .i64 l2) ∧ w'.cell? ⟨g1, 2, none⟩ = some (.int .i64 s2) ∧ w'.cell? ⟨g1, 3, none⟩ = some (.bool false) ∧ w'.cell? ⟨g1, 4, none⟩ = some (.int .i64 x2)) ∧ (w'.cell? ⟨g2, 0, none⟩ = some (.int .i64 t2) ∧ w'.cell? ⟨g2, 1, none⟩ = some (.int .i64 l2) ∧ w'.cell? ⟨g2, 2, none⟩ = some (.int .i64 s2) ∧ w'.cell? ⟨g2, 3, none⟩ = some (.bool false) ∧ w'.cell? ⟨g2, 4, none⟩ = some (.int .i64 x2))) ∧ w'.cell? ⟨At, 1, none⟩ = some (.int .i64 (a1 : Nat)))) (by kernel_rfl) (ak_keep5 hS) (fun hHeld => ?_)
            refine wpAnyH_ready (rs := [0]) (by kernel_rfl) (by simp) ?_
            refine AllReadyH.cons (by simp only [List.getElem?_toArray, List.getElem?_cons_succ, List.getElem?_cons_zero]; rfl) (fun kC hkC => ?_) AllReadyH.nil
            go_simp
            refine (told10_any _).mono ?_; rintro e x1' ⟨rfl, hkk⟩; have hS := hS.no hkk; clear hkk
            (try go_wp2_with fail)
            refine hkC.out _ _ (ak_keep5 hS) (fun hHeld => ?_)
            clear hkC kC
            try simp only [Act.put, List.setIfInBounds_toArray, List.set_cons_zero, List.set_cons_succ]
            refine wpAnyH_take (i := 1) (v := ?_) (by simp only [List.getElem?_toArray, List.getElem?_cons_succ, List.getElem?_cons_zero]; rfl) (by kernel_rfl) (by kernel_rfl) (by kernel_rfl) (by exact fun _ _ _ h => h) (Or.inl ⟨by rfl, ?_⟩) hHeld ?_
            rotate_left
            · intro w hSw; (try dsimp only at hSw); go_simp; (try with_reducible rfl)
            try simp only [Act.put, List.setIfInBounds_toArray, List.set_cons_zero, List.set_cons_succ]
            refine wpAnyH_take (i := 2) (v := ?_) (by simp only [List.getElem?_toArray, List.getElem?_cons_succ, List.getElem?_cons_zero]; rfl) (by kernel_rfl) (by kernel_rfl) (by kernel_rfl) (by exact fun _ _ _ h => h) (Or.inl ⟨by rfl, ?_⟩) hHeld ?_
            rotate_left
            · intro w hSw; (try dsimp only at hSw); go_simp; (try with_reducible rfl)
            try simp only [Act.put, List.setIfInBounds_toArray, List.set_cons_zero, List.set_cons_succ]
            refine wpAnyH_take (i := 3) (v := ?_) (by simp only [List.getElem?_toArray, List.getElem?_cons_succ, List.getElem?_cons_zero]; rfl) (by kernel_rfl) (by kernel_rfl) (by kernel_rfl) (by exact fun _ _ _ h => h) (Or.inl ⟨by rfl, ?_⟩) hHeld ?_
            rotate_left
            · intro w hSw; (try dsimp only at hSw); go_simp; (try with_reducible rfl)
            try simp only [Act.put, List.setIfInBounds_toArray, List.set_cons_zero, List.set_cons_succ]
            refine wpAnyH_take (i := 4) (v := ?_) (by simp only [List.getElem?_toArray, List.getElem?_cons_succ, List.getElem?_cons_zero]; rfl) (by kernel_rfl) (by kernel_rfl) (by kernel_rfl) (by exact fun _ _ _ h => h) (Or.inl ⟨by rfl, ?_⟩) hHeld ?_
            rotate_left
            · intro w hSw; (try dsimp only at hSw); go_simp; (try with_reducible rfl)
            try simp only [Act.put, List.setIfInBounds_toArray, List.set_cons_zero, List.set_cons_succ]
            refine wpAnyH_take (i := 5) (v := ?_) (by simp only [List.getElem?_toArray, List.getElem?_cons_succ, List.getElem?_cons_zero]; rfl) (by kernel_rfl) (by kernel_rfl) (by kernel_rfl) (by exact fun _ _ _ h => h) (Or.inl ⟨by rfl, ?_⟩) hHeld ?_
            rotate_left
            · intro w hSw; (try dsimp only at hSw); go_simp; (try with_reducible rfl)
            try simp only [Act.put, List.setIfInBounds_toArray, List.set_cons_zero, List.set_cons_succ]
            refine wpAnyH_take (i := 6) (v := ?_) (by simp only [List.getElem?_toArray, List.getElem?_cons_succ, List.getElem?_cons_zero]; rfl) (by kernel_rfl) (by kernel_rfl) (by kernel_rfl) (by exact fun _ _ _ h => h) (Or.inl ⟨by rfl, ?_⟩) hHeld ?_
            rotate_left
            · intro w hSw; (try dsimp only at hSw); go_simp; (try with_reducible rfl)
            try simp only [Act.put, List.setIfInBounds_toArray, List.set_cons_zero, List.set_cons_succ]
            refine wpAnyH_take (i := 7) (v := ?_) (by simp only [List.getElem?_toArray, List.getElem?_cons_succ, List.getElem?_cons_zero]; rfl) (by kernel_rfl) (by kernel_rfl) (by kernel_rfl) (by exact fun _ _ _ h => h) (Or.inl ⟨by rfl, ?_⟩) hHeld ?_
            rotate_left
            · intro w hSw; (try dsimp only at hSw); go_simp; (try with_reducible rfl)
            try simp only [Act.put, List.setIfInBounds_toArray, List.set_cons_zero, List.set_cons_succ]
            refine wpAnyH_take (i := 8) (v := ?_) (by simp only [List.getElem?_toArray, List.getElem?_cons_succ, List.getElem?_cons_zero]; rfl) (by kernel_rfl) (by kernel_rfl) (by kernel_rfl) (by exact fun _ _ _ h => h) (Or.inl ⟨by rfl, ?_⟩) hHeld ?_
            rotate_left
            · intro w hSw; (try dsimp only at hSw); go_simp; (try with_reducible rfl)
            try simp only [Act.put, List.setIfInBounds_toArray, List.set_cons_zero, List.set_cons_succ]
            refine wpAnyH_ready (rs := [9]) (by kernel_rfl) (by simp) ?_
            refine AllReadyH.cons (by simp only [List.getElem?_toArray, List.getElem?_cons_succ, List.getElem?_cons_zero]; rfl) (fun kC hkC => ?_) AllReadyH.nil
            go_simp
            refine (same_any a c v u M2 M2 _ hS.tw.s.m hS.tw.r.m rfl).mono ?_; rintro e x2' ⟨rfl, hkk⟩; have hS := hS.no hkk; clear hkk
            (try go_wp2_with fail)
            refine hkC.out _ _ (ak_keep5 hS) (fun hHeld => ?_)
            clear hkC kC
            try simp only [Act.put, List.setIfInBounds_toArray, List.set_cons_zero, List.set_cons_succ]
            refine wpAnyH_take (i := 10) (v := ?_) (by simp only [List.getElem?_toArray, List.getElem?_cons_succ, List.getElem?_cons_zero]; rfl) (by kernel_rfl) (by kernel_rfl) (by kernel_rfl) (by exact fun _ _ _ h => h) (Or.inl ⟨by rfl, ?_⟩) hHeld ?_
            rotate_left
            · intro w hSw; (try dsimp only at hSw); go_simp; (try with_reducible rfl)
            try simp only [Act.put, List.setIfInBounds_toArray, List.set_cons_zero, List.set_cons_succ]
            refine wpAnyH_take (i := 11) (v := ?_) (by simp only [List.getElem?_toArray, List.getElem?_cons_succ, List.getElem?_cons_zero]; rfl) (by kernel_rfl) (by kernel_rfl) (by kernel_rfl) (by exact fun _ _ _ h => h) (Or.inl ⟨by rfl, ?_⟩) hHeld ?_
            rotate_left
            · intro w hSw; (try dsimp only at hSw); go_simp; (try with_reducible rfl)
            try simp only [Act.put, List.setIfInBounds_toArray, List.set_cons_zero, List.set_cons_succ]
            refine wpAnyH_take (i := 12) (v := ?_) (by simp only [List.getElem?_toArray, List.getElem?_cons_succ, List.getElem?_cons_zero]; rfl) (by kernel_rfl) (by kernel_rfl) (by kernel_rfl) (by exact fun _ _ _ h => h) (Or.inl ⟨by rfl, ?_⟩) hHeld ?_
            rotate_left
            · intro w hSw; (try dsimp only at hSw); go_simp; (try with_reducible rfl)
            try simp only [Act.put, List.setIfInBounds_toArray, List.set_cons_zero, List.set_cons_succ]
            refine wpAnyH_take (i := 13) (v := ?_) (by simp only [List.getElem?_toArray, List.getElem?_cons_succ, List.getElem?_cons_zero]; rfl) (by kernel_rfl) (by kernel_rfl) (by kernel_rfl) (by exact fun _ _ _ h => h) (Or.inl ⟨by rfl, ?_⟩) hHeld ?_
            rotate_left
            · intro w hSw; (try dsimp only at hSw); go_simp; (try with_reducible rfl)
            try simp only [Act.put, List.setIfInBounds_toArray, List.set_cons_zero, List.set_cons_succ]
            refine wpAnyH_ready (rs := [14]) (by kernel_rfl) (by simp) ?_
            refine AllReadyH.cons (by simp only [List.getElem?_toArray, List.getElem?_cons_succ, List.getElem?_cons_zero]; rfl) (fun kC hkC => ?_) AllReadyH.nil
            go_simp
            refine (like_keep w _ a c v u M2 hS.tw).mono ?_; rintro e x3' ⟨rfl, _, hkk⟩; have hS := hS.no hkk; clear hkk
            (try go_wp2_with fail)
            refine hkC.out _ _ (ak_keep5 hS) (fun hHeld => ?_)
            clear hkC kC
            try simp only [Act.put, List.setIfInBounds_toArray, List.set_cons_zero, List.set_cons_succ]
            refine wpAnyH_take (i := 15) (v := ?_) (by simp only [List.getElem?_toArray, List.getElem?_cons_succ, List.getElem?_cons_zero]; rfl) (by kernel_rfl) (by kernel_rfl) (by kernel_rfl) (by exact fun _ _ _ h => h) (Or.inl ⟨by rfl, ?_⟩) hHeld ?_
            rotate_left
            · intro w hSw; (try dsimp only at hSw); go_simp; (try with_reducible rfl)
            try simp only [Act.put, List.setIfInBounds_toArray, List.set_cons_zero, List.set_cons_succ]
            refine wpAnyH_take (i := 16) (v := ?_) (by simp only [List.getElem?_toArray, List.getElem?_cons_succ, List.getElem?_cons_zero]; rfl) (by kernel_rfl) (by kernel_rfl) (by kernel_rfl) (by exact fun _ _ _ h => h) (Or.inl ⟨by rfl, ?_⟩) hHeld ?_
            rotate_left
            · intro w hSw; (try dsimp only at hSw); go_simp; (try with_reducible rfl)
            try simp only [Act.put, List.setIfInBounds_toArray, List.set_cons_zero, List.set_cons_succ]
            refine wpAnyH_take (i := 17) (v := ?_) (by simp only [List.getElem?_toArray, List.getElem?_cons_succ, List.getElem?_cons_zero]; rfl) (by kernel_rfl) (by kernel_rfl) (by kernel_rfl) (by exact fun _ _ _ h => h) (Or.inl ⟨by rfl, ?_⟩) hHeld ?_
            rotate_left
            · intro w hSw; (try dsimp only at hSw); go_simp; (try with_reducible rfl)
            try simp only [Act.put, List.setIfInBounds_toArray, List.set_cons_zero, List.set_cons_succ]
            refine wpAnyH_take (i := 18) (v := ?_) (by simp only [List.getElem?_toArray, List.getElem?_cons_succ, List.getElem?_cons_zero]; rfl) (by kernel_rfl) (by kernel_rfl) (by kernel_rfl) (by exact fun _ _ _ h => h) (Or.inl ⟨by rfl, ?_⟩) hHeld ?_
            rotate_left
            · intro w hSw; (try dsimp only at hSw); go_simp; (try with_reducible rfl)
            try simp only [Act.put, List.setIfInBounds_toArray, List.set_cons_zero, List.set_cons_succ]
            refine wpAnyH_take (i := 19) (v := ?_) (by simp only [List.getElem?_toArray, List.getElem?_cons_succ, List.getElem?_cons_zero]; rfl) (by kernel_rfl) (by kernel_rfl) (by kernel_rfl) (by exact fun _ _ _ h => h) (Or.inl ⟨by rfl, ?_⟩) hHeld ?_
            rotate_left
            · intro w hSw; (try dsimp only at hSw); go_simp; (try with_reducible rfl)
            try simp only [Act.put, List.setIfInBounds_toArray, List.set_cons_zero, List.set_cons_succ]
            refine wpAnyH_take (i := 21) (v := ?_) (by simp only [List.getElem?_toArray, List.getElem?_cons_succ, List.getElem?_cons_zero]; rfl) (by kernel_rfl) (by kernel_rfl) (by kernel_rfl) (by exact fun _ _ _ h => h) (Or.inl ⟨by rfl, ?_⟩) hHeld ?_
            rotate_left
            · intro w hSw; (try dsimp only at hSw); go_simp; (try with_reducible rfl)
            try simp only [Act.put, List.setIfInBounds_toArray, List.set_cons_zero, List.set_cons_succ]
            refine wpAnyH_take (i := 22) (v := ?_) (by simp only [List.getElem?_toArray, List.getElem?_cons_succ, List.getElem?_cons_zero]; rfl) (by kernel_rfl) (by kernel_rfl) (by kernel_rfl) (by exact fun _ _ _ h => h) (Or.inl ⟨by rfl, ?_⟩) hHeld ?_
            rotate_left
            · intro w hSw; (try dsimp only at hSw); go_simp; (try with_reducible rfl)
            try simp only [Act.put, List.setIfInBounds_toArray, List.set_cons_zero, List.set_cons_succ]
            refine wpAnyH_take (i := 23) (v := ?_) (by simp only [List.getElem?_toArray, List.getElem?_cons_succ, List.getElem?_cons_zero]; rfl) (by kernel_rfl) (by kernel_rfl) (by kernel_rfl) (by exact fun _ _ _ h => h) (Or.inl ⟨by rfl, ?_⟩) hHeld ?_
            rotate_left
            · intro w hSw; (try dsimp only at hSw); go_simp; (try with_reducible rfl)
            try simp only [Act.put, List.setIfInBounds_toArray, List.set_cons_zero, List.set_cons_succ]
            refine wpAnyH_take (i := 24) (v := ?_) (by simp only [List.getElem?_toArray, List.getElem?_cons_succ, List.getElem?_cons_zero]; rfl) (by kernel_rfl) (by kernel_rfl) (by kernel_rfl) (by exact fun _ _ _ h => h) (Or.inl ⟨by rfl, ?_⟩) hHeld ?_
            rotate_left
            · intro w hSw; (try dsimp only at hSw); go_simp; (try with_reducible rfl)
            try simp only [Act.put, List.setIfInBounds_toArray, List.set_cons_zero, List.set_cons_succ]
            refine wpAnyH_ready (rs := [20]) (by kernel_rfl) (by simp) ?_
            refine AllReadyH.cons (by simp only [List.getElem?_toArray, List.getElem?_cons_succ, List.getElem?_cons_zero]; rfl) (fun kC hkC => ?_) AllReadyH.nil
            go_simp
            refine (inside8_any lk hlk3 a v M2 _ hS.tw.s.m HL2.out).mono ?_; rw [HRA.out, HPW.out]; rintro e x4' ⟨rfl, hkk⟩; have hS := hS.no hkk; clear hkk
            (try go_wp2_with fail)
            refine hkC.out _ _ (ak_keep5 hS) (fun hHeld => ?_)
            clear hkC kC
            try simp only [Act.put, List.setIfInBounds_toArray, List.set_cons_zero, List.set_cons_succ]
            refine wpAnyH_ready (rs := [25]) (by kernel_rfl) (by simp) ?_
            refine AllReadyH.cons (by simp only [List.getElem?_toArray, List.getElem?_cons_succ, List.getElem?_cons_zero]; rfl) (fun kC hkC => ?_) AllReadyH.nil
            go_simp
            refine (rpeek_ok c u M2 a1 _ hS.tw.r.m HPK.out).mono ?_; rw [HPW.out]; rintro e x5' ⟨rfl, rfl⟩
            (try go_wp2_with fail)
            refine hkC.out _ _ (ak_keep5 hS) (fun hHeld => ?_)
            clear hkC kC
            try simp only [Act.put, List.setIfInBounds_toArray, List.set_cons_zero, List.set_cons_succ]
            refine wpAnyH_take (i := 26) (v := ?_) (by simp only [List.getElem?_toArray, List.getElem?_cons_succ, List.getElem?_cons_zero]; rfl) (by kernel_rfl) (by kernel_rfl) (by kernel_rfl) (by exact fun _ _ _ h => h) (Or.inl ⟨by rfl, ?_⟩) hHeld ?_
            rotate_left
            · intro w hSw; (try dsimp only at hSw); go_simp; (try with_reducible rfl)
            try simp only [Act.put, List.setIfInBounds_toArray, List.set_cons_zero, List.set_cons_succ]
            refine wpAnyH_take (i := 27) (v := ?_) (by simp only [List.getElem?_toArray, List.getElem?_cons_succ, List.getElem?_cons_zero]; rfl) (by kernel_rfl) (by kernel_rfl) (by kernel_rfl) (by exact fun _ _ _ h => h) (Or.inl ⟨by rfl, ?_⟩) hHeld ?_
            rotate_left
            · intro w hSw; (try dsimp only at hSw); go_simp; (try with_reducible rfl)
            try simp only [Act.put, List.setIfInBounds_toArray, List.set_cons_zero, List.set_cons_succ]
            refine wpAnyH_take (i := 28) (v := ?_) (by simp only [List.getElem?_toArray, List.getElem?_cons_succ, List.getElem?_cons_zero]; rfl) (by kernel_rfl) (by kernel_rfl) (by kernel_rfl) (by exact fun _ _ _ h => h) (Or.inl ⟨by rfl, ?_⟩) hHeld ?_
            rotate_left
            · intro w hSw; (try dsimp only at hSw); go_simp; (try with_reducible rfl)
            try simp only [Act.put, List.setIfInBounds_toArray, List.set_cons_zero, List.set_cons_succ]
            refine wpAnyH_done (by kernel_rfl) ?_ _
            go_wp2_with fail
            go_ret
            exact ⟨by simp, hS.bg.kp⟩
          · go_wp2_with fail
            refine wp_region_held_drew (S := (fun w' => ((w'.cell? ⟨F, 0, none⟩ = some (.int .i64 2) ∧ w'.cell? ⟨F, 1, none⟩ = some (.int .i64 2) ∧ w'.cell? ⟨F, 2, none⟩ = some (.int .i64 4) ∧ w'.cell? ⟨F, 3, none⟩ = some (.int .i64 0) ∧ w'.cell? ⟨F, 4, none⟩ = some (.int .i64 2)) ∧ (w'.cell? ⟨B, 0, none⟩ = some (.int .i64 2) ∧ w'.cell? ⟨B, 1, none⟩ = some (.int .i64 2) ∧ w'.cell? ⟨B, 2, none⟩ = some (.int .i64 4) ∧ w'.cell? ⟨B, 3, none⟩ = some (.int .i64 0) ∧ w'.cell? ⟨B, 4, none⟩ = some (.int .i64 2)) ∧ (w'.cell? ⟨H, 0, none⟩ = some (.int .i64 t1) ∧ w'.cell? ⟨H, 1, none⟩ = some (.int .i64 l1) ∧ w'.cell? ⟨H, 2, none⟩ = some (.int .i64 s1) ∧ w'.cell? ⟨H, 3, none⟩ = some (.bool rd) ∧ w'.cell? ⟨H, 4, none⟩ = some (.int .i64 x1)) ∧ (w'.cell? ⟨g1, 0, none⟩ = some (.int .i64 t2) ∧ w'.cell? ⟨g1, 1, none⟩ = some (.int .i64 l2) ∧ w'.cell? ⟨g1, 2, none⟩ = some (.int .i64 s2) ∧ w'.cell? ⟨g1, 3, none⟩ = some (.bool true) ∧ w'.cell? ⟨g1, 4, none⟩ = some (.int .i64 x2)) ∧ (w'.cell? ⟨g2, 0, none⟩ = some (.int .i64 t2) ∧ w'.cell? ⟨g2, 1, none⟩ = some (.int .i64 l2) ∧ w'.cell? ⟨g2, 2, none⟩ = some (.int .i64 s2) ∧ w'.cell? ⟨g2, 3, none⟩ = some (.bool true) ∧ w'.cell? ⟨g2, 4, none⟩ = some (.int .i64 x2))) ∧ w'.cell? ⟨At, 1, none⟩ = some (.int .i64 (a1 : Nat)))) (by kernel_rfl) (ak_keep5 hS) (fun hHeld => ?_)
            refine wpAnyH_ready (rs := [0]) (by kernel_rfl) (by simp) ?_
            refine AllReadyH.cons (by simp only [List.getElem?_toArray, List.getElem?_cons_succ, List.getElem?_cons_zero]; rfl) (fun kC hkC => ?_) AllReadyH.nil
            go_simp
            refine (told10_any _).mono ?_; rintro e x1' ⟨rfl, hkk⟩; have hS := hS.no hkk; clear hkk
            (try go_wp2_with fail)
            refine hkC.out _ _ (ak_keep5 hS) (fun hHeld => ?_)
            clear hkC kC
            try simp only [Act.put, List.setIfInBounds_toArray, List.set_cons_zero, List.set_cons_succ]
            refine wpAnyH_take (i := 1) (v := ?_) (by simp only [List.getElem?_toArray, List.getElem?_cons_succ, List.getElem?_cons_zero]; rfl) (by kernel_rfl) (by kernel_rfl) (by kernel_rfl) (by exact fun _ _ _ h => h) (Or.inl ⟨by rfl, ?_⟩) hHeld ?_
            rotate_left
            · intro w hSw; (try dsimp only at hSw); go_simp; (try with_reducible rfl)
            try simp only [Act.put, List.setIfInBounds_toArray, List.set_cons_zero, List.set_cons_succ]
            refine wpAnyH_take (i := 2) (v := ?_) (by simp only [List.getElem?_toArray, List.getElem?_cons_succ, List.getElem?_cons_zero]; rfl) (by kernel_rfl) (by kernel_rfl) (by kernel_rfl) (by exact fun _ _ _ h => h) (Or.inl ⟨by rfl, ?_⟩) hHeld ?_
            rotate_left
            · intro w hSw; (try dsimp only at hSw); go_simp; (try with_reducible rfl)
            try simp only [Act.put, List.setIfInBounds_toArray, List.set_cons_zero, List.set_cons_succ]
            refine wpAnyH_take (i := 3) (v := ?_) (by simp only [List.getElem?_toArray, List.getElem?_cons_succ, List.getElem?_cons_zero]; rfl) (by kernel_rfl) (by kernel_rfl) (by kernel_rfl) (by exact fun _ _ _ h => h) (Or.inl ⟨by rfl, ?_⟩) hHeld ?_
            rotate_left
            · intro w hSw; (try dsimp only at hSw); go_simp; (try with_reducible rfl)
            try simp only [Act.put, List.setIfInBounds_toArray, List.set_cons_zero, List.set_cons_succ]
            refine wpAnyH_take (i := 4) (v := ?_) (by simp only [List.getElem?_toArray, List.getElem?_cons_succ, List.getElem?_cons_zero]; rfl) (by kernel_rfl) (by kernel_rfl) (by kernel_rfl) (by exact fun _ _ _ h => h) (Or.inl ⟨by rfl, ?_⟩) hHeld ?_
            rotate_left
            · intro w hSw; (try dsimp only at hSw); go_simp; (try with_reducible rfl)
            try simp only [Act.put, List.setIfInBounds_toArray, List.set_cons_zero, List.set_cons_succ]
            refine wpAnyH_take (i := 5) (v := ?_) (by simp only [List.getElem?_toArray, List.getElem?_cons_succ, List.getElem?_cons_zero]; rfl) (by kernel_rfl) (by kernel_rfl) (by kernel_rfl) (by exact fun _ _ _ h => h) (Or.inl ⟨by rfl, ?_⟩) hHeld ?_
            rotate_left
            · intro w hSw; (try dsimp only at hSw); go_simp; (try with_reducible rfl)
            try simp only [Act.put, List.setIfInBounds_toArray, List.set_cons_zero, List.set_cons_succ]
            refine wpAnyH_take (i := 6) (v := ?_) (by simp only [List.getElem?_toArray, List.getElem?_cons_succ, List.getElem?_cons_zero]; rfl) (by kernel_rfl) (by kernel_rfl) (by kernel_rfl) (by exact fun _ _ _ h => h) (Or.inl ⟨by rfl, ?_⟩) hHeld ?_
            rotate_left
            · intro w hSw; (try dsimp only at hSw); go_simp; (try with_reducible rfl)
            try simp only [Act.put, List.setIfInBounds_toArray, List.set_cons_zero, List.set_cons_succ]
            refine wpAnyH_take (i := 7) (v := ?_) (by simp only [List.getElem?_toArray, List.getElem?_cons_succ, List.getElem?_cons_zero]; rfl) (by kernel_rfl) (by kernel_rfl) (by kernel_rfl) (by exact fun _ _ _ h => h) (Or.inl ⟨by rfl, ?_⟩) hHeld ?_
            rotate_left
            · intro w hSw; (try dsimp only at hSw); go_simp; (try with_reducible rfl)
            try simp only [Act.put, List.setIfInBounds_toArray, List.set_cons_zero, List.set_cons_succ]
            refine wpAnyH_take (i := 8) (v := ?_) (by simp only [List.getElem?_toArray, List.getElem?_cons_succ, List.getElem?_cons_zero]; rfl) (by kernel_rfl) (by kernel_rfl) (by kernel_rfl) (by exact fun _ _ _ h => h) (Or.inl ⟨by rfl, ?_⟩) hHeld ?_
            rotate_left
            · intro w hSw; (try dsimp only at hSw); go_simp; (try with_reducible rfl)
            try simp only [Act.put, List.setIfInBounds_toArray, List.set_cons_zero, List.set_cons_succ]
            refine wpAnyH_ready (rs := [9]) (by kernel_rfl) (by simp) ?_
            refine AllReadyH.cons (by simp only [List.getElem?_toArray, List.getElem?_cons_succ, List.getElem?_cons_zero]; rfl) (fun kC hkC => ?_) AllReadyH.nil
            go_simp
            refine (same_any a c v u M2 M2 _ hS.tw.s.m hS.tw.r.m rfl).mono ?_; rintro e x2' ⟨rfl, hkk⟩; have hS := hS.no hkk; clear hkk
            (try go_wp2_with fail)
            refine hkC.out _ _ (ak_keep5 hS) (fun hHeld => ?_)
            clear hkC kC
            try simp only [Act.put, List.setIfInBounds_toArray, List.set_cons_zero, List.set_cons_succ]
            refine wpAnyH_take (i := 10) (v := ?_) (by simp only [List.getElem?_toArray, List.getElem?_cons_succ, List.getElem?_cons_zero]; rfl) (by kernel_rfl) (by kernel_rfl) (by kernel_rfl) (by exact fun _ _ _ h => h) (Or.inl ⟨by rfl, ?_⟩) hHeld ?_
            rotate_left
            · intro w hSw; (try dsimp only at hSw); go_simp; (try with_reducible rfl)
            try simp only [Act.put, List.setIfInBounds_toArray, List.set_cons_zero, List.set_cons_succ]
            refine wpAnyH_take (i := 11) (v := ?_) (by simp only [List.getElem?_toArray, List.getElem?_cons_succ, List.getElem?_cons_zero]; rfl) (by kernel_rfl) (by kernel_rfl) (by kernel_rfl) (by exact fun _ _ _ h => h) (Or.inl ⟨by rfl, ?_⟩) hHeld ?_
            rotate_left
            · intro w hSw; (try dsimp only at hSw); go_simp; (try with_reducible rfl)
            try simp only [Act.put, List.setIfInBounds_toArray, List.set_cons_zero, List.set_cons_succ]
            refine wpAnyH_take (i := 12) (v := ?_) (by simp only [List.getElem?_toArray, List.getElem?_cons_succ, List.getElem?_cons_zero]; rfl) (by kernel_rfl) (by kernel_rfl) (by kernel_rfl) (by exact fun _ _ _ h => h) (Or.inl ⟨by rfl, ?_⟩) hHeld ?_
            rotate_left
            · intro w hSw; (try dsimp only at hSw); go_simp; (try with_reducible rfl)
            try simp only [Act.put, List.setIfInBounds_toArray, List.set_cons_zero, List.set_cons_succ]
            refine wpAnyH_take (i := 13) (v := ?_) (by simp only [List.getElem?_toArray, List.getElem?_cons_succ, List.getElem?_cons_zero]; rfl) (by kernel_rfl) (by kernel_rfl) (by kernel_rfl) (by exact fun _ _ _ h => h) (Or.inl ⟨by rfl, ?_⟩) hHeld ?_
            rotate_left
            · intro w hSw; (try dsimp only at hSw); go_simp; (try with_reducible rfl)
            try simp only [Act.put, List.setIfInBounds_toArray, List.set_cons_zero, List.set_cons_succ]
            refine wpAnyH_ready (rs := [14]) (by kernel_rfl) (by simp) ?_
            refine AllReadyH.cons (by simp only [List.getElem?_toArray, List.getElem?_cons_succ, List.getElem?_cons_zero]; rfl) (fun kC hkC => ?_) AllReadyH.nil
            go_simp
            refine (like_keep w _ a c v u M2 hS.tw).mono ?_; rintro e x3' ⟨rfl, _, hkk⟩; have hS := hS.no hkk; clear hkk
            (try go_wp2_with fail)
            refine hkC.out _ _ (ak_keep5 hS) (fun hHeld => ?_)
            clear hkC kC
            try simp only [Act.put, List.setIfInBounds_toArray, List.set_cons_zero, List.set_cons_succ]
            refine wpAnyH_take (i := 15) (v := ?_) (by simp only [List.getElem?_toArray, List.getElem?_cons_succ, List.getElem?_cons_zero]; rfl) (by kernel_rfl) (by kernel_rfl) (by kernel_rfl) (by exact fun _ _ _ h => h) (Or.inl ⟨by rfl, ?_⟩) hHeld ?_
            rotate_left
            · intro w hSw; (try dsimp only at hSw); go_simp; (try with_reducible rfl)
            try simp only [Act.put, List.setIfInBounds_toArray, List.set_cons_zero, List.set_cons_succ]
            refine wpAnyH_take (i := 16) (v := ?_) (by simp only [List.getElem?_toArray, List.getElem?_cons_succ, List.getElem?_cons_zero]; rfl) (by kernel_rfl) (by kernel_rfl) (by kernel_rfl) (by exact fun _ _ _ h => h) (Or.inl ⟨by rfl, ?_⟩) hHeld ?_
            rotate_left
            · intro w hSw; (try dsimp only at hSw); go_simp; (try with_reducible rfl)
            try simp only [Act.put, List.setIfInBounds_toArray, List.set_cons_zero, List.set_cons_succ]
            refine wpAnyH_take (i := 17) (v := ?_) (by simp only [List.getElem?_toArray, List.getElem?_cons_succ, List.getElem?_cons_zero]; rfl) (by kernel_rfl) (by kernel_rfl) (by kernel_rfl) (by exact fun _ _ _ h => h) (Or.inl ⟨by rfl, ?_⟩) hHeld ?_
            rotate_left
            · intro w hSw; (try dsimp only at hSw); go_simp; (try with_reducible rfl)
            try simp only [Act.put, List.setIfInBounds_toArray, List.set_cons_zero, List.set_cons_succ]
            refine wpAnyH_take (i := 18) (v := ?_) (by simp only [List.getElem?_toArray, List.getElem?_cons_succ, List.getElem?_cons_zero]; rfl) (by kernel_rfl) (by kernel_rfl) (by kernel_rfl) (by exact fun _ _ _ h => h) (Or.inl ⟨by rfl, ?_⟩) hHeld ?_
            rotate_left
            · intro w hSw; (try dsimp only at hSw); go_simp; (try with_reducible rfl)
            try simp only [Act.put, List.setIfInBounds_toArray, List.set_cons_zero, List.set_cons_succ]
            refine wpAnyH_take (i := 19) (v := ?_) (by simp only [List.getElem?_toArray, List.getElem?_cons_succ, List.getElem?_cons_zero]; rfl) (by kernel_rfl) (by kernel_rfl) (by kernel_rfl) (by exact fun _ _ _ h => h) (Or.inl ⟨by rfl, ?_⟩) hHeld ?_
            rotate_left
            · intro w hSw; (try dsimp only at hSw); go_simp; (try with_reducible rfl)
            try simp only [Act.put, List.setIfInBounds_toArray, List.set_cons_zero, List.set_cons_succ]
            refine wpAnyH_take (i := 21) (v := ?_) (by simp only [List.getElem?_toArray, List.getElem?_cons_succ, List.getElem?_cons_zero]; rfl) (by kernel_rfl) (by kernel_rfl) (by kernel_rfl) (by exact fun _ _ _ h => h) (Or.inl ⟨by rfl, ?_⟩) hHeld ?_
            rotate_left
            · intro w hSw; (try dsimp only at hSw); go_simp; (try with_reducible rfl)
            try simp only [Act.put, List.setIfInBounds_toArray, List.set_cons_zero, List.set_cons_succ]
            refine wpAnyH_take (i := 22) (v := ?_) (by simp only [List.getElem?_toArray, List.getElem?_cons_succ, List.getElem?_cons_zero]; rfl) (by kernel_rfl) (by kernel_rfl) (by kernel_rfl) (by exact fun _ _ _ h => h) (Or.inl ⟨by rfl, ?_⟩) hHeld ?_
            rotate_left
            · intro w hSw; (try dsimp only at hSw); go_simp; (try with_reducible rfl)
            try simp only [Act.put, List.setIfInBounds_toArray, List.set_cons_zero, List.set_cons_succ]
            refine wpAnyH_take (i := 23) (v := ?_) (by simp only [List.getElem?_toArray, List.getElem?_cons_succ, List.getElem?_cons_zero]; rfl) (by kernel_rfl) (by kernel_rfl) (by kernel_rfl) (by exact fun _ _ _ h => h) (Or.inl ⟨by rfl, ?_⟩) hHeld ?_
            rotate_left
            · intro w hSw; (try dsimp only at hSw); go_simp; (try with_reducible rfl)
            try simp only [Act.put, List.setIfInBounds_toArray, List.set_cons_zero, List.set_cons_succ]
            refine wpAnyH_take (i := 24) (v := ?_) (by simp only [List.getElem?_toArray, List.getElem?_cons_succ, List.getElem?_cons_zero]; rfl) (by kernel_rfl) (by kernel_rfl) (by kernel_rfl) (by exact fun _ _ _ h => h) (Or.inl ⟨by rfl, ?_⟩) hHeld ?_
            rotate_left
            · intro w hSw; (try dsimp only at hSw); go_simp; (try with_reducible rfl)
            try simp only [Act.put, List.setIfInBounds_toArray, List.set_cons_zero, List.set_cons_succ]
            refine wpAnyH_ready (rs := [20]) (by kernel_rfl) (by simp) ?_
            refine AllReadyH.cons (by simp only [List.getElem?_toArray, List.getElem?_cons_succ, List.getElem?_cons_zero]; rfl) (fun kC hkC => ?_) AllReadyH.nil
            go_simp
            refine (inside8_any lk hlk3 a v M2 _ hS.tw.s.m HL2.out).mono ?_; rw [HRA.out, HPW.out]; rintro e x4' ⟨rfl, hkk⟩; have hS := hS.no hkk; clear hkk
            (try go_wp2_with fail)
            refine hkC.out _ _ (ak_keep5 hS) (fun hHeld => ?_)
            clear hkC kC
            try simp only [Act.put, List.setIfInBounds_toArray, List.set_cons_zero, List.set_cons_succ]
            refine wpAnyH_ready (rs := [25]) (by kernel_rfl) (by simp) ?_
            refine AllReadyH.cons (by simp only [List.getElem?_toArray, List.getElem?_cons_succ, List.getElem?_cons_zero]; rfl) (fun kC hkC => ?_) AllReadyH.nil
            go_simp
            refine (rpeek_ok c u M2 a1 _ hS.tw.r.m HPK.out).mono ?_; rw [HPW.out]; rintro e x5' ⟨rfl, rfl⟩
            (try go_wp2_with fail)
            refine hkC.out _ _ (ak_keep5 hS) (fun hHeld => ?_)
            clear hkC kC
            try simp only [Act.put, List.setIfInBounds_toArray, List.set_cons_zero, List.set_cons_succ]
            refine wpAnyH_take (i := 26) (v := ?_) (by simp only [List.getElem?_toArray, List.getElem?_cons_succ, List.getElem?_cons_zero]; rfl) (by kernel_rfl) (by kernel_rfl) (by kernel_rfl) (by exact fun _ _ _ h => h) (Or.inl ⟨by rfl, ?_⟩) hHeld ?_
            rotate_left
            · intro w hSw; (try dsimp only at hSw); go_simp; (try with_reducible rfl)
            try simp only [Act.put, List.setIfInBounds_toArray, List.set_cons_zero, List.set_cons_succ]
            refine wpAnyH_take (i := 27) (v := ?_) (by simp only [List.getElem?_toArray, List.getElem?_cons_succ, List.getElem?_cons_zero]; rfl) (by kernel_rfl) (by kernel_rfl) (by kernel_rfl) (by exact fun _ _ _ h => h) (Or.inl ⟨by rfl, ?_⟩) hHeld ?_
            rotate_left
            · intro w hSw; (try dsimp only at hSw); go_simp; (try with_reducible rfl)
            try simp only [Act.put, List.setIfInBounds_toArray, List.set_cons_zero, List.set_cons_succ]
            refine wpAnyH_take (i := 28) (v := ?_) (by simp only [List.getElem?_toArray, List.getElem?_cons_succ, List.getElem?_cons_zero]; rfl) (by kernel_rfl) (by kernel_rfl) (by kernel_rfl) (by exact fun _ _ _ h => h) (Or.inl ⟨by rfl, ?_⟩) hHeld ?_
            rotate_left
            · intro w hSw; (try dsimp only at hSw); go_simp; (try with_reducible rfl)
            try simp only [Act.put, List.setIfInBounds_toArray, List.set_cons_zero, List.set_cons_succ]
            refine wpAnyH_done (by kernel_rfl) ?_ _
            go_wp2_with fail
            go_ret
            exact ⟨by simp, hS.bg.kp⟩
end Go.Proofs.Ytjchcmomppfilaa
